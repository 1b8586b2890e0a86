/- The loops of functions, by name. -/
import Derived.Test.YtaendaokfclnoaaGreatDoorC04
import Derived.Test.YtaendaokfclnoaaGreatDoorC20
import Derived.Test.YtaendaokfclnoaaGreatDoorC17
import Derived.Test.YtaendaokfclnoaaGreatDoorC21
noncomputable section
section
namespace Go.Abs.T
open AV
set_option maxRecDepth 100000
def c66_l0:ACode:=(.seq (.seq (.reg [⟨s18,.mov,[v6],none⟩,⟨s19,.mov,[v1],none⟩,⟨s20,.bin .lss .one,[v18,v19],none⟩]) (.cond (v20) .skip (.exit 0))) (.seq (.block 1 (.seq (.dreg [⟨⟨s23,.fieldAddr 1,[v2],none⟩,false,0,9,false,[],false⟩,⟨⟨s24,.load none,[v23],none⟩,false,0,9,false,[],false⟩,⟨⟨s25,.mov,[v6],none⟩,false,0,9,false,[],false⟩,⟨⟨s26,.indexAddr (.slc 7),[v24,v25],none⟩,false,0,9,false,[],false⟩,⟨⟨s27,.fieldAddr 0,[v26],none⟩,false,0,9,false,[],false⟩,⟨⟨s28,.load none,[v27],none⟩,false,0,9,false,[],false⟩,⟨⟨s29,.fieldAddr 0,[v5],none⟩,false,0,9,false,[],false⟩,⟨⟨s30,.load none,[v29],none⟩,false,0,9,false,[],false⟩,⟨⟨s31,.bin .eql .one,[v28,v30],none⟩,false,0,9,false,[],true⟩]) (.cond (v31) (.seq (.reg [⟨s4,.mov,[.const i6],none⟩]) .ret) .skip))) (.reg [⟨s21,.mov,[v6],none⟩,⟨s22,.bin .add .one,[v21,.const i1],none⟩,⟨s6,.mov,[v22],none⟩])))
def c66_t:ACode:=(.seq (.reg [⟨s32,.fieldAddr 1,[v5],none⟩,⟨s33,.load (some 3),[v32],none⟩,⟨s34,.call,[.const (g t96),v33],none⟩,⟨s7,.mov,[v34],none⟩]) (.seq (.seq (.reg [⟨s35,.mov,[v7],none⟩,⟨s36,.bin .neq .one,[v35,.const i0],none⟩]) (.cond (v36) (.seq (.reg [⟨s37,.mov,[v7],none⟩,⟨s4,.mov,[v37],none⟩]) .ret) .skip)) (.seq (.reg [⟨s38,.fieldAddr 1,[v5],none⟩,⟨s39,.load (some 3),[v38],none⟩,⟨s40,.call,[.const (g t97),v39],none⟩,⟨s8,.alloc [i0,i0,i0,i0],[],none⟩,⟨none,.store 4,[v8,v40],none⟩]) (.seq (.seq (.reg [⟨s41,.fieldAddr 4,[v5],none⟩,⟨s42,.fieldAddr 0,[v41],none⟩,⟨s43,.load none,[v42],none⟩,⟨s44,.call,[.const (g t98),v43],none⟩,⟨s45,.mov,[v44],none⟩,⟨s46,.fieldAddr 4,[v5],(some (t45,false))⟩,⟨s47,.fieldAddr 1,[v46],(some (t45,false))⟩,⟨s48,.load none,[v47],(some (t45,false))⟩,⟨s49,.call,[.const (g t98),v48],(some (t45,false))⟩,⟨s50,.pick,[v45,.const (bool true),v49],none⟩,⟨s51,.mov,[v50],none⟩,⟨s52,.fieldAddr 0,[v8],(some (t51,false))⟩,⟨s53,.load none,[v52],(some (t51,false))⟩,⟨s54,.call,[.const (g t98),v53],(some (t51,false))⟩,⟨s55,.pick,[v51,.const (bool true),v54],none⟩,⟨s56,.mov,[v55],none⟩,⟨s57,.fieldAddr 1,[v8],(some (t56,false))⟩,⟨s58,.load none,[v57],(some (t56,false))⟩,⟨s59,.call,[.const (g t98),v58],(some (t56,false))⟩,⟨s60,.pick,[v56,.const (bool true),v59],none⟩,⟨s61,.mov,[v60],none⟩,⟨s62,.fieldAddr 2,[v8],(some (t61,false))⟩,⟨s63,.load none,[v62],(some (t61,false))⟩,⟨s64,.call,[.const (g t98),v63],(some (t61,false))⟩,⟨s65,.pick,[v61,.const (bool true),v64],none⟩,⟨s66,.mov,[v65],none⟩,⟨s67,.fieldAddr 3,[v8],(some (t66,false))⟩,⟨s68,.load none,[v67],(some (t66,false))⟩,⟨s69,.call,[.const (g t98),v68],(some (t66,false))⟩,⟨s70,.pick,[v66,.const (bool true),v69],none⟩]) (.cond (v70) (.seq (.reg [⟨s4,.mov,[.const i3],none⟩]) .ret) .skip)) (.seq (.seq (.reg [⟨s71,.fieldAddr 1,[v5],none⟩,⟨s72,.load (some 3),[v71],none⟩,⟨s73,.fieldAddr 4,[v5],none⟩,⟨s74,.load (some 2),[v73],none⟩,⟨s75,.call,[.const (g t99),v72,v74],none⟩,⟨s76,.un .not,[v75],none⟩]) (.cond (v76) (.seq (.reg [⟨s4,.mov,[.const i22],none⟩]) .ret) .skip)) (.seq (.seq (.reg [⟨s77,.fieldAddr 6,[v5],none⟩,⟨s78,.load none,[v77],none⟩,⟨s79,.bin .lss .one,[v78,.const i0],none⟩,⟨s80,.mov,[v79],none⟩,⟨s81,.fieldAddr 6,[v5],(some (t80,false))⟩,⟨s82,.load none,[v81],(some (t80,false))⟩,⟨s83,.bin .rem .one,[v82,.const i2],(some (t80,false))⟩,⟨s84,.bin .neq .one,[v83,.const i0],(some (t80,false))⟩,⟨s85,.pick,[v80,.const (bool true),v84],none⟩]) (.cond (v85) (.seq (.reg [⟨s4,.mov,[.const i3],none⟩]) .ret) .skip)) (.seq (.seq (.reg [⟨s86,.fieldAddr 6,[v5],none⟩,⟨s87,.load none,[v86],none⟩,⟨s88,.bin .gtr .one,[v87,.const i0],none⟩,⟨s89,.mov,[v88],none⟩,⟨s90,.load (some 7),[v5],(some (t89,true))⟩,⟨s91,.call,[.const (g t100),v90],(some (t89,true))⟩,⟨s92,.un .not,[v91],(some (t89,true))⟩,⟨s93,.pick,[v89,v92,.const (bool false)],none⟩]) (.cond (v93) (.seq (.reg [⟨s4,.mov,[.const i22],none⟩]) .ret) .skip)) (.seq (.reg [⟨s4,.mov,[.const i0],none⟩]) .ret))))))))
theorem c66_eq:c66=⟨94,[.tmp t4],(.seq (.reg [⟨s2,.box,[v0],none⟩,⟨s4,.mov,[.const i0],none⟩]) (.seq (.reg [⟨s9,.fieldAddr 1,[v2],none⟩,⟨s10,.load none,[v9],none⟩,⟨s11,.mov,[v1],none⟩,⟨s12,.indexAddr (.slc 7),[v10,v11],none⟩,⟨s13,.load (some 7),[v12],none⟩,⟨s5,.alloc [e0,i0,nils,i0,i0,i0,i0],[],none⟩,⟨none,.store 7,[v5,v13],none⟩]) (.seq (.seq (.reg [⟨s14,.fieldAddr 0,[v5],none⟩,⟨s15,.load none,[v14],none⟩,⟨s16,.call,[.const (g t95),v15],none⟩,⟨s17,.un .not,[v16],none⟩]) (.cond (v17) (.seq (.reg [⟨s4,.mov,[.const i20],none⟩]) .ret) .skip)) (.seq (.seq (.reg [⟨s6,.mov,[.const i0],none⟩]) (.block 0 (.loop c66_l0))) c66_t))))⟩:=rfl
def c3_l0:ACode:=(.seq (.reg [⟨s96,.bin .lss .one,[v95,v94],none⟩]) (.seq (.cond (v96) .skip (.exit 4)) (.seq (.block 5 (.seq (.reg [⟨s97,.indexAddr (.slc 4),[v93,v95],none⟩,⟨s98,.load (some 4),[v97],none⟩,⟨s20,.alloc [e0,e0,e0,(bool false)],[],none⟩,⟨none,.store 4,[v20,v98],none⟩]) (.seq (.reg [⟨s100,.load (some 3),[v12],none⟩,⟨s101,.mov,[v14],none⟩,⟨s102,.load (some 4),[v20],none⟩,⟨s103,.call,[.const (g t13),v100,v101,v102],none⟩,⟨s99,.mov,[v103],none⟩,⟨s104,.extract 0,[v99],none⟩,⟨s105,.extract 1,[v99],none⟩,⟨s21,.mov,[v104],none⟩,⟨s22,.mov,[v105],none⟩]) (.seq (.reg [⟨s107,.load (some 3),[v12],none⟩,⟨s108,.mov,[v14],none⟩,⟨s109,.load (some 4),[v20],none⟩,⟨s110,.call,[.const (g t14),v107,v108,v109],none⟩,⟨s106,.mov,[v110],none⟩,⟨s111,.extract 0,[v106],none⟩,⟨s112,.extract 1,[v106],none⟩,⟨s23,.mov,[v111],none⟩,⟨s24,.mov,[v112],none⟩]) (.seq (.reg [⟨s113,.mov,[v22],none⟩,⟨s114,.mov,[v24],none⟩,⟨s115,.bin .neq .one,[v113,v114],none⟩,⟨s116,.mov,[v115],none⟩,⟨s117,.mov,[v21],(some (t116,false))⟩,⟨s118,.mov,[v23],(some (t116,false))⟩,⟨s119,.call,[.const (g t9),v117,v118],(some (t116,false))⟩,⟨s120,.un .not,[v119],(some (t116,false))⟩,⟨s121,.pick,[v116,.const (bool true),v120],none⟩]) (.cond (v121) (.seq (.reg [⟨s6,.mov,[.const (bool false)],none⟩]) .ret) .skip)))))) (.reg [⟨s122,.bin .add .one,[v95,.const i1],none⟩,⟨s95,.mov,[v122],none⟩]))))
def c3_l1:ACode:=(.seq (.reg [⟨s54,.bin .lss .one,[v53,v52],none⟩]) (.seq (.cond (v54) .skip (.exit 2)) (.seq (.block 3 (.seq (.reg [⟨s55,.indexAddr (.slc 1),[v51,v53],none⟩,⟨s56,.load none,[v55],none⟩,⟨s14,.mov,[v56],none⟩]) (.seq (.reg [⟨s58,.load (some 3),[v12],none⟩,⟨s59,.mov,[v14],none⟩,⟨s60,.call,[.const (g t7),v58,v59],none⟩,⟨s57,.mov,[v60],none⟩,⟨s61,.extract 0,[v57],none⟩,⟨s62,.extract 1,[v57],none⟩,⟨s15,.mov,[v61],none⟩,⟨s16,.mov,[v62],none⟩]) (.seq (.reg [⟨s64,.load (some 3),[v12],none⟩,⟨s65,.mov,[v14],none⟩,⟨s66,.call,[.const (g t8),v64,v65],none⟩,⟨s63,.mov,[v66],none⟩,⟨s67,.extract 0,[v63],none⟩,⟨s68,.extract 1,[v63],none⟩,⟨s17,.mov,[v67],none⟩,⟨s18,.mov,[v68],none⟩]) (.seq (.seq (.dreg [⟨⟨s69,.mov,[v16],none⟩,false,0,6,false,[],false⟩,⟨⟨s70,.mov,[v18],none⟩,false,0,6,false,[],false⟩,⟨⟨s71,.bin .neq .bool,[v69,v70],none⟩,false,0,6,false,[],false⟩,⟨⟨s72,.mov,[v71],none⟩,false,0,6,false,[],false⟩,⟨⟨s73,.mov,[v15],(some (t72,false))⟩,false,0,6,false,[],false⟩,⟨⟨s74,.mov,[v17],(some (t72,false))⟩,false,0,6,false,[],false⟩,⟨⟨s75,.call,[.const (g t9),v73,v74],(some (t72,false))⟩,true,0,13,true,[],false⟩,⟨⟨s76,.un .not,[v75],(some (t72,false))⟩,false,7,13,false,[],false⟩,⟨⟨s77,.pick,[v72,.const (bool true),v76],none⟩,false,7,13,false,[],false⟩,⟨⟨s78,.mov,[v77],none⟩,false,7,13,false,[],false⟩,⟨⟨s79,.load (some 3),[v12],(some (t78,false))⟩,false,7,13,false,[],false⟩,⟨⟨s80,.mov,[v9],(some (t78,false))⟩,false,7,13,false,[],false⟩,⟨⟨s81,.mov,[v14],(some (t78,false))⟩,false,7,13,false,[],false⟩,⟨⟨s82,.call,[.const (g t10),v79,v80,v81],(some (t78,false))⟩,true,7,17,true,[],false⟩,⟨⟨s83,.load (some 3),[v12],(some (t78,false))⟩,false,7,17,true,[],false⟩,⟨⟨s84,.mov,[v9],(some (t78,false))⟩,false,7,17,true,[],false⟩,⟨⟨s85,.mov,[v14],(some (t78,false))⟩,false,7,17,true,[],false⟩,⟨⟨s86,.call,[.const (g t11),v83,v84,v85],(some (t78,false))⟩,true,14,20,true,[],false⟩,⟨⟨s87,.bin .neq .bool,[v82,v86],(some (t78,false))⟩,false,18,20,false,[],false⟩,⟨⟨s88,.pick,[v78,.const (bool true),v87],none⟩,false,18,20,false,[],true⟩]) (.cond (v88) (.seq (.reg [⟨s6,.mov,[.const (bool false)],none⟩]) .ret) .skip)) (.seq (.dreg [⟨⟨s89,.load (some 9),[v3],none⟩,false,0,2,false,[],false⟩,⟨⟨s90,.load (some 3),[v8],none⟩,false,0,2,false,[],false⟩,⟨⟨s91,.call,[.const (g t12),v89,v90],none⟩,true,0,7,true,[],false⟩,⟨⟨s92,.load (some 4),[v5],none⟩,false,0,7,true,[],false⟩,⟨⟨s93,.buildSl 2 4 [e0,e0,e0,(bool false),e0,e0,e0,(bool false)] [0,1],[v91,v92],none⟩,false,3,7,false,[],false⟩,⟨⟨s94,.len .slc,[v93],none⟩,false,3,7,false,[4],false⟩,⟨⟨s95,.mov,[.const i0],none⟩,false,0,7,true,[],false⟩]) (.block 4 (.loop c3_l0)))))))) (.reg [⟨s123,.bin .add .one,[v53,.const i1],none⟩,⟨s53,.mov,[v123],none⟩]))))
def c3_l2:ACode:=(.seq (.reg [⟨s45,.bin .lss .one,[v44,v43],none⟩]) (.seq (.cond (v45) .skip (.exit 0)) (.seq (.block 1 (.seq (.reg [⟨s46,.indexAddr (.slc 3),[v42,v44],none⟩,⟨s47,.load (some 3),[v46],none⟩,⟨s12,.alloc [e0,nils,nils],[],none⟩,⟨none,.store 3,[v12,v47],none⟩]) (.seq (.reg [⟨s48,.mov,[v9],none⟩,⟨s49,.mov,[v10],none⟩,⟨s50,.mov,[v1],none⟩,⟨s51,.buildSl 3 1 [nils,nils,nils] [0,1,2],[v48,v49,v50],none⟩,⟨s52,.len .slc,[v51],none⟩,⟨s53,.mov,[.const i0],none⟩]) (.block 2 (.loop c3_l1))))) (.reg [⟨s124,.bin .add .one,[v44,.const i1],none⟩,⟨s44,.mov,[v124],none⟩]))))
theorem c3_eq:c3=⟨126,[.tmp t6],(.seq (.reg [⟨s3,.box,[v0],none⟩,⟨s5,.box,[v2],none⟩,⟨s6,.mov,[.const (bool false)],none⟩]) (.seq (.reg [⟨s25,.call,[.const (g t4)],none⟩,⟨s7,.mov,[v25],none⟩]) (.seq (.reg [⟨s27,.load (some 9),[v3],none⟩,⟨s28,.call,[.const (g t5),v27],none⟩,⟨s26,.mov,[v28],none⟩,⟨s29,.extract 0,[v26],none⟩,⟨s30,.extract 1,[v26],none⟩,⟨s31,.extract 2,[v26],none⟩,⟨s8,.alloc [e0,nils,nils],[],none⟩,⟨none,.store 3,[v8,v29],none⟩,⟨s9,.mov,[v30],none⟩,⟨s10,.mov,[v31],none⟩]) (.seq (.reg [⟨s32,.mov,[v1],none⟩,⟨s33,.mov,[v1],none⟩,⟨s34,.len .slc,[v33],none⟩,⟨s35,.min,[v34,.const i8],none⟩,⟨s36,.slice (.slc 1) false true false,[v32,v35],none⟩,⟨s1,.mov,[v36],none⟩]) (.seq (.seq (.dreg [⟨⟨s37,.load (some 3),[v8],none⟩,false,0,8,true,[],false⟩,⟨⟨s38,.load (some 3),[v8],none⟩,false,0,4,false,[],false⟩,⟨⟨s39,.fieldAddr 3,[v3],none⟩,false,0,4,false,[],false⟩,⟨⟨s40,.load (some 3),[v39],none⟩,false,0,4,false,[],false⟩,⟨⟨s41,.call,[.const (g t6),v38,v40],none⟩,true,0,8,true,[],false⟩,⟨⟨s42,.buildSl 2 3 [e0,nils,nils,e0,nils,nils] [0,1],[v37,v41],none⟩,false,5,8,false,[],false⟩,⟨⟨s43,.len .slc,[v42],none⟩,false,5,8,false,[5],false⟩,⟨⟨s44,.mov,[.const i0],none⟩,false,0,8,true,[],false⟩]) (.block 0 (.loop c3_l2))) (.seq (.reg [⟨s125,.mov,[v7],none⟩,⟨s6,.mov,[v125],none⟩]) .ret))))))⟩:=rfl
end Go.Abs.T
end
section
namespace Go.Abs.Sym
open Go.Abs.T
open Go.Proofs
def xB1 (n:Int):Bool:=ltI n (.negSucc 1048575)||ltI (.ofNat 1048576) n
def pV (p:PadD):List AV:=[.int .i64 p.kd,slV edC p.es,.int .i64 p.r]
def atC (p:PadD):List AV:=[.int .i64 p.x,.int .i64 p.y]
def hJ (T:TypD) (k:Nat) (nm:List Nat):Bool:=(T.pads.l.take k).any (fun q=>eqS q.nm nm)
theorem xTw {T:TypD} {j:Nat} {q:PadD} (hq:T.pads.l[j]?=some q) (nm:List Nat):hJ T (j+1) nm=(hJ T j nm||eqS q.nm nm):=by
 simp only [hJ,List.take_add_one,hq,Option.toList_some,List.any_append,List.any_cons,List.any_nil,Bool.or_false]
theorem zSo {a r:List AV} {n:Nat} (h:a.length=n):takeD (a++r) 0 n=some a:=by
 simp only [takeD,List.drop_zero]
 rw [List.take_left' h,yH,decide_eq_true h]
 rfl
structure GeoF (X:Ctx) (p:PadD) (ck b0 b1 b2 b3:Int) (ins:Bool):Prop where
 chk:∀ h,xC X 49 (g t96) [.agg (pV p)] h=.ret (.int .i64 ck) h
 box:∀ h,xC X 49 (g t97) [.agg (pV p)] h=.ret (.agg [.int .i64 b0,.int .i64 b1,.int .i64 b2,.int .i64 b3]) h
 far:∀ n h,xC X 49 (g t98) [.int .i64 n] h=.ret (.bool (xB1 n)) h
 ins:∀ h,xC X 49 (g t99) [.agg (pV p),.agg (atC p)] h=.ret (.bool ins) h
theorem e00:eqI (.ofNat 0) (.ofNat 0)=true:=rfl
theorem e20:eqI (.ofNat 2) 0=false:=rfl
def xOs (X:Ctx) (p:PadD) (v:Nat):Prop:=∀ (fr:Tr AV) (t:Tr AB) (m:Nat),fr.get t5=some (.ptr (up .e 1) 0)→t.get (up .e 1)=some (.cells (qP p) false) →
 ∃ fr' h',xF X (xC X 49) c66_t ⟨fr,[],⟨up .e (m+2),t,.lf⟩,.no,none,t66⟩=.ret ⟨fr',[],h',.no,none,t66⟩∧fr'.get t4=some (.int .i64 (.ofNat v))
section
variable {X:Ctx} {p:PadD} {ck b0 b1 b2 b3:Int} {ins:Bool}
theorem zSh (cC:∀ h,xC X 49 (g t96) [.agg (pV p)] h=.ret (.int .i64 ck) h) {c:Nat} (h1:ck=.ofNat (c+1)):xOs X p (c+1):=by
 intro fr t m g5 a5
 subst h1
 simp only [qP] at a5
 simp only [pV] at cC
 have he:eqI (.ofNat (c+1)) (.ofNat 0)=false:=by rw [kE]; exact decide_eq_false (by simp only [Int.ofNat_eq_natCast]; omega)
 simp +decide only [c66_t,yF,g5,a5,cC,he]
 refine ⟨_,_,rfl,?_⟩
 simp +decide only [Tr.get_put,if_true,if_false]
theorem zSj (cC:∀ h,xC X 49 (g t96) [.agg (pV p)] h=.ret (.int .i64 ck) h) (cB:∀ h,xC X 49 (g t97) [.agg (pV p)] h=.ret (.agg [.int .i64 b0,.int .i64 b1,.int .i64 b2,.int .i64 b3]) h) (cF:∀ n h,xC X 49 (g t98) [.int .i64 n] h=.ret (.bool (xB1 n)) h) (h1:ck=.ofNat 0) (h2:xB1 p.x=true):xOs X p 3:=by
 intro fr t m g5 a5
 subst h1
 simp only [qP] at a5
 simp only [pV] at cC cB
 simp +decide only [c66_t,yF,Nat.reduceAdd,Nat.reduceEqDiff,g5,a5,e00,cC,cB,cF,h2]
 refine ⟨_,_,rfl,?_⟩
 simp +decide only [Tr.get_put,if_true,if_false]
variable (G:GeoF X p ck b0 b1 b2 b3 ins)
include G
section
variable (h1:ck=.ofNat 0) (f0:xB1 p.x=false) (f1:xB1 p.y=false) (f2:xB1 b0=false) (f3:xB1 b1=false) (f4:xB1 b2=false) (f5:xB1 b3=false)
include h1 f0 f1 f2 f3 f4 f5
theorem xW6 (hi:ins=false):xOs X p 22:=by
 intro fr t m g5 a5
 have cC:=G.chk
 have cB:=G.box
 have cF:=G.far
 have cI:=G.ins
 subst h1 hi
 simp only [qP] at a5
 simp only [pV] at cC cB cI
 simp only [atC] at cI
 simp +decide only [c66_t,yF,Nat.reduceAdd,Nat.reduceEqDiff,g5,a5,e00,cC,cB,cF,cI,f0,f1,f2,f3,f4,f5]
 refine ⟨_,_,rfl,?_⟩
 simp +decide only [Tr.get_put,if_true,if_false]
theorem zSk (hi:ins=true) (hd:ltI p.dr (.ofNat 0)=true):xOs X p 3:=by
 intro fr t m g5 a5
 have cC:=G.chk
 have cB:=G.box
 have cF:=G.far
 have cI:=G.ins
 subst h1 hi
 simp only [qP] at a5
 simp only [pV] at cC cB cI
 simp only [atC] at cI
 simp +decide only [c66_t,yF,Nat.reduceAdd,Nat.reduceEqDiff,g5,a5,e00,cC,cB,cF,cI,f0,f1,f2,f3,f4,f5,hd]
 refine ⟨_,_,rfl,?_⟩
 simp +decide only [Tr.get_put,if_true,if_false]
theorem zSl (hi:ins=true) (hd:ltI p.dr (.ofNat 0)=false) (ho:eqI (p.dr.tmod (.ofNat 2)) (.ofNat 0)=false):xOs X p 3:=by
 intro fr t m g5 a5
 have cC:=G.chk
 have cB:=G.box
 have cF:=G.far
 have cI:=G.ins
 subst h1 hi
 simp only [qP] at a5
 simp only [pV] at cC cB cI
 simp only [atC] at cI
 simp +decide only [c66_t,yF,Nat.reduceAdd,Nat.reduceEqDiff,g5,a5,e00,e20,cC,cB,cF,cI,f0,f1,f2,f3,f4,f5,hd,ho]
 refine ⟨_,_,rfl,?_⟩
 simp +decide only [Tr.get_put,if_true,if_false]
theorem zSi (hi:ins=true) (hd:ltI p.dr (.ofNat 0)=false) (ho:eqI (p.dr.tmod (.ofNat 2)) (.ofNat 0)=true) (hp:ltI (.ofNat 0) p.dr=true) (cD:∀ h,xC X 49 (g t100) [.agg (qP p)] h=.ret (.bool false) h):xOs X p 22:=by
 intro fr t m g5 a5
 have cC:=G.chk
 have cB:=G.box
 have cF:=G.far
 have cI:=G.ins
 have htp:takeD (qP p) 0 7=some (qP p):=pW rfl
 subst h1 hi
 simp only [qP] at a5 cD htp
 simp only [pV] at cC cB cI
 simp only [atC] at cI
 simp +decide only [c66_t,yF,Nat.reduceAdd,Nat.reduceEqDiff,g5,a5,e00,e20,cC,cB,cF,cI,cD,f0,f1,f2,f3,f4,f5,hd,ho,hp,htp]
 refine ⟨_,_,rfl,?_⟩
 simp +decide only [Tr.get_put,if_true,if_false]
theorem xQt (hi:ins=true) (hd:ltI p.dr (.ofNat 0)=false) (ho:eqI (p.dr.tmod (.ofNat 2)) (.ofNat 0)=true) (hp:ltI (.ofNat 0) p.dr=false):xOs X p 0:=by
 intro fr t m g5 a5
 have cC:=G.chk
 have cB:=G.box
 have cF:=G.far
 have cI:=G.ins
 subst h1 hi
 simp only [qP] at a5
 simp only [pV] at cC cB cI
 simp only [atC] at cI
 simp +decide only [c66_t,yF,Nat.reduceAdd,Nat.reduceEqDiff,g5,a5,e00,e20,cC,cB,cF,cI,f0,f1,f2,f3,f4,f5,hd,ho,hp]
 refine ⟨_,_,rfl,?_⟩
 simp +decide only [Tr.get_put,if_true,if_false]
theorem zFl (hi:ins=true) (hd:ltI p.dr (.ofNat 0)=false) (ho:eqI (p.dr.tmod (.ofNat 2)) (.ofNat 0)=true) (hp:ltI (.ofNat 0) p.dr=true) (cD:∀ h,xC X 49 (g t100) [.agg (qP p)] h=.ret (.bool true) h):xOs X p 0:=by
 intro fr t m g5 a5
 have cC:=G.chk
 have cB:=G.box
 have cF:=G.far
 have cI:=G.ins
 have htp:takeD (qP p) 0 7=some (qP p):=pW rfl
 subst h1 hi
 simp only [qP] at a5 cD htp
 simp only [pV] at cC cB cI
 simp only [atC] at cI
 simp +decide only [c66_t,yF,Nat.reduceAdd,Nat.reduceEqDiff,g5,a5,e00,e20,cC,cB,cF,cI,cD,f0,f1,f2,f3,f4,f5,hd,ho,hp,htp]
 refine ⟨_,_,rfl,?_⟩
 simp +decide only [Tr.get_put,if_true,if_false]
end
end
def PdI (k:Nat) (j:Nat) (fr:Tr AV):Prop :=
 fr.get t1=some (.int .i64 (.ofNat k))∧fr.get t2=some (.ptr (up .e 0) 0)∧fr.get t5=some (.ptr (up .e 1) 0)∧fr.get t6=some (.int .i64 (.ofNat j))
def PdS (T:TypD) (k:Nat) (nm:List Nat) (t:Tr AB) (r:Nat) (st:St):Prop:=∃ fr j m,st=⟨fr,[],⟨up .e (m+2),t,.lf⟩,.no,none,t66⟩∧j+r=k∧hJ T j nm=false∧PdI k j fr
section
variable {X:Ctx} {T:TypD} {k:Nat} {p:PadD} (hl:T.pads.l.length<90000) (hk:T.pads.l[k]?=some p)
include hl hk in
theorem zRq {t:Tr AB} (a0:t.get (up .e 0)=some (.cells (tyC T) false)) (a1:t.get (up .e 1)=some (.cells (qP p) false)) (r:Nat) (st:St) (h:PdS T k p.nm t r st) :
  Stp (PdS T k p.nm t)
   (fun o=>(∃ fr m,o=.exit 0 ⟨fr,[],⟨up .e (m+2),t,.lf⟩,.no,none,t66⟩∧hJ T k p.nm=false∧PdI k k fr) ∨
    (∃ fr m,o=.ret ⟨fr,[],⟨up .e (m+2),t,.lf⟩,.no,none,t66⟩∧hJ T k p.nm=true∧fr.get t4=some (.int .i64 (.ofNat 6)))) r (xF X (xC X 49) c66_l0 st):=by
 obtain ⟨fr,j,m,rfl,hj,hd,g1,g2,g5,g6⟩:=h
 have hkl:k<T.pads.l.length:=(List.getElem?_eq_some_iff.1 hk).1
 simp only [tyC] at a0
 simp only [qP] at a1
 cases r with
 | zero =>
  have hkn:(j<k)=False:=eq_false (by omega)
  have:j=k:=by omega
  subst this
  simp +decide only [c66_l0,yF,g1,g6,qV,hkn,xCd]
  refine .inl ⟨_,m,rfl,hd,?_,?_,?_,?_⟩
  all_goals simp +decide only [Tr.get_put,g1,g2,g5,g6,if_false]
 | succ r =>
  have hkn:(j<k)=True:=eq_true (by omega)
  obtain ⟨q,hq⟩:∃ q,T.pads.l[j]?=some q:=⟨_,List.getElem?_eq_getElem (by omega)⟩
  have ia:=vL (f:=qP) (sz:=7) (fun _=>rfl) (by decide) hq
  have hw:=xAd j 1 (by omega)
  simp only [qP] at ia
  cases he:eqS q.nm p.nm with
  | false =>
   simp +decide only [c66_l0,yF,Nat.reduceAdd,Nat.reduceLeDiff,mK,jB,kD,xO,g1,g2,g5,g6,a0,a1,qV,hkn,ia,he,hw,xA2]
   refine ⟨r,by omega,_,j+1,m+9,rfl,by omega,by rw [xTw hq,hd,he]; rfl,?_,?_,?_,?_⟩
   all_goals simp +decide only [Tr.get_put,g1,g2,g5,g6,if_true,if_false]
  | true =>
   simp +decide only [c66_l0,yF,Nat.reduceAdd,Nat.reduceLeDiff,mK,jB,kD,xO,g1,g2,g5,g6,a0,a1,qV,hkn,ia,he,xW2]
   refine .inr ⟨_,m+9,rfl,?_,?_⟩
   ·have h1:hJ T (j+1) p.nm=true:=by rw [xTw hq,he,Bool.or_true]
    simp only [hJ,List.any_eq_true] at h1 ⊢
    obtain ⟨x,hx,hx'⟩:=h1
    exact ⟨x,(List.take_subset_take_left _ (by omega)) hx,hx'⟩
   ·simp +decide only [Tr.get_put,if_true,if_false]
include hl hk in
theorem zZo {fr0:Tr AV} {tt:Tr AB} {o:Out} (hit:jQ (xF X (xC X 49) c66_l0) 100000 ⟨fr0,[],⟨up .e 2,tt,.lf⟩,.no,none,t66⟩=o)
  (a0:tt.get (up .e 0)=some (.cells (tyC T) false)) (a1:tt.get (up .e 1)=some (.cells (qP p) false)) (hI:PdI k 0 fr0) :
  (∃ fr t m,o=.exit 0 ⟨fr,[],⟨up .e (m+2),t,.lf⟩,.no,none,t66⟩∧t.get (up .e 1)=some (.cells (qP p) false)∧hJ T k p.nm=false∧PdI k k fr) ∨
    (∃ fr h',o=.ret ⟨fr,[],h',.no,none,t66⟩∧hJ T k p.nm=true∧fr.get t4=some (.int .i64 (.ofNat 6))):=by
 have hkl:k<T.pads.l.length:=(List.getElem?_eq_some_iff.1 hk).1
 have hr:=kW (PdS T k p.nm tt) _ (fun r st h=>zRq (X:=X) hl hk a0 a1 r st h) 100000 k _ ⟨fr0,0,0,rfl,Nat.zero_add _,rfl,hI⟩ (by omega)
 rw [hit] at hr
 rcases hr with ⟨fr,m,e,h1,h2⟩ | ⟨fr,m,e,h1,h2⟩
 ·exact .inl ⟨fr,tt,m,e,a1,h1,h2⟩
 ·exact .inr ⟨fr,_,e,h1,h2⟩
variable (hfu:X.fuel=100000) (hs:∀ xs,X.sums t66 xs h0=none) (hF:X.funcs.get t66=some c66)
include hl hk hs hF in
omit hl in
theorem zF7 (cM:∀ h,xC X 49 (g t95) [.str p.nm] h=.ret (.bool false) h) :
  Ret (xC X 50 (.fn t66 [] []) [.agg (tyC T),.int .i64 (.ofNat k)] h0) (fun v _=>v=.int .i64 (.ofNat 20)):=by
 refine bH (hs _) hF fun fr t ga gb => ?_
 rw [c66_eq]
 have ga':=ga
 have hkl:k<T.pads.l.length:=(List.getElem?_eq_some_iff.1 hk).1
 have ia:=vL (f:=qP) (sz:=7) (fun _=>rfl) (by decide) hk
 have htp:takeD (qP p++(T.pads.l.drop (k+1)).flatMap qP) 0 7=some (qP p):=zSo rfl
 simp only [tyC] at ga'
 simp only [qP] at ia htp
 simp +decide only [yF,Nat.reduceAdd,ga',gb,ia,cM]
include hl hk hfu hs hF in
theorem zF8 (cM:∀ h,xC X 49 (g t95) [.str p.nm] h=.ret (.bool true) h) {v:Nat} (hv:hJ T k p.nm=true∧v=6∨hJ T k p.nm=false∧xOs X p v) :
  Ret (xC X 50 (.fn t66 [] []) [.agg (tyC T),.int .i64 (.ofNat k)] h0) (fun x _=>x=.int .i64 (.ofNat v)):=by
 refine bH (hs _) hF fun fr t ga gb => ?_
 rw [c66_eq]
 have ga':=ga
 have hkl:k<T.pads.l.length:=(List.getElem?_eq_some_iff.1 hk).1
 have ia:=vL (f:=qP) (sz:=7) (fun _=>rfl) (by decide) hk
 have htp:takeD (qP p++(T.pads.l.drop (k+1)).flatMap qP) 0 7=some (qP p):=zSo rfl
 simp only [tyC] at ga'
 simp only [qP] at ia htp
 simp +decide only [yK,Nat.reduceAdd,ga',gb,hfu,ia,cM]
 generalize hit:jQ (xF X (xC X 49) c66_l0) _ _=o
 have ho:=zZo hl hk hit (by simp +decide only [Tr.get_put,tyC,if_true,if_false]) (by simp +decide only [Tr.get_put,qP,if_true,if_false])
  (by refine ⟨?_,?_,?_,?_⟩<;>simp +decide only [Tr.get_put,gb,if_true,if_false])
 clear hit
 rcases ho with ⟨fr',t',m,rfl,a1,hd,k1,k2,k5,k6⟩ | ⟨fr',h',rfl,hd,k4⟩
 ·rcases hv with ⟨h,_⟩ | ⟨_,hT⟩
  ·rw [hd] at h; cases h
  ·obtain ⟨fr2,h2,e,k4⟩:=hT fr' t' m k5 a1
   simp +decide only [e,yM,k4]
 ·rcases hv with ⟨_,rfl⟩ | ⟨h,_⟩
  ·simp +decide only [yM,k4]
  ·rw [hd] at h; cases h
end
end Go.Abs.Sym
end
section
namespace Go.Abs.Sym
open Go.Abs.T
open Go.Proofs
theorem xQ3 {X:Ctx} {f:Pth} {al:List AV} {r:AV} {more:Pth→List AV→H→Option AV} (hF:zP f al r) (hm:@jH yU Tryz.prog X more):@jH yU Tryz.prog X (wY f al r more):=by
 intro i args h v hs ρ w avs hr hv
 unfold wY at hs
 cases hi:(Pth.beq i f&&AV.beqs args al) with
 | false=>rw [hi] at hs; exact hm i args h v hs ρ w avs hr hv
 | true =>
  rw [hi] at hs
  simp only [cond_true,Option.some.injEq] at hs
  subst hs
  rw [Bool.and_eq_true] at hi
  have:=AV.beqs_eq _ _ hi.2
  subst this
  rw [Pth.beq_iff.1 hi.1]
  exact hF _ _ _ _ _ hr hv
theorem yQs (n:Int):zP t98 [.int .i64 n] (.bool (xB1 n)):=by
 have hs:∀ xs,X0.sums t98 xs h0=none:=fun _=>rfl
 have hF:X0.funcs.get t98=some c98:=rfl
 have hr:Ret (xC X0 50 (.fn t98 [] []) [.int .i64 n] h0) (fun v _=>v=.bool (xB1 n)):=by
  refine zHd (hs _) hF fun fr t ga => ?_
  unfold xB1
  cases h1:ltI n (.negSucc 1048575)<;>cases h2:ltI (.ofNat 1048576) n<;>simp +decide only [c98,yF,ga,h1,h2]
 obtain ⟨v,h1,hc,rfl⟩:=hr
 exact kU (d:=0) (ok0 (envI:=yU)) rfl hc rfl rfl
def zI3 (more:Pth→List AV→H→Option AV) (i:Pth) (args:List AV) (h:H):Option AV :=
 bif Pth.beq i t98 then (match args with | [.int .i64 n]=>some (.bool (xB1 n)) | _=>none) else more i args h
theorem zXr {X:Ctx} {more:Pth→List AV→H→Option AV} (hm:@jH yU Tryz.prog X more):@jH yU Tryz.prog X (zI3 more):=by
 intro i args h v hs ρ w avs hr hv
 unfold zI3 at hs
 cases hi:Pth.beq i t98 with
 | false=>rw [hi] at hs; exact hm i args h v hs ρ w avs hr hv
 | true =>
  rw [hi] at hs
  simp only [cond_true] at hs
  rw [Pth.beq_iff.1 hi]
  split at hs
  ·cases hs
   exact yQs _ _ _ _ _ _ hr hv
  ·cases hs
def nB:List (Pth×List AV×AV)→Pth→List AV→H→Option AV
 | []=>zI3 (fun _ _ _=>none)
 | e::l=>wY e.1 e.2.1 e.2.2 (nB l)
def kC (l:List (Pth×List AV×AV)):Prop:=∀ e∈l,zP e.1 e.2.1 e.2.2
theorem xUm {X:Ctx}:∀ {l:List (Pth×List AV×AV)},kC l→@jH yU Tryz.prog X (nB l)
 | [],_=>zXr (kX (envI:=yU))
 | e::l,h=>xQ3 (h e List.mem_cons_self) (xUm (l:=l) (fun x hx=>h x (List.mem_cons_of_mem _ hx)))
def XF (l:List (Pth×List AV×AV)):Ctx:={ X0 with sums:=nB l }
theorem xKa {l:List (Pth×List AV×AV)} (h:kC l):@XOK yU Tryz.prog (XF l):=@XOK.mk yU _ _ mixed kV (mT (envI:=yU)) (xUm h)
theorem wZ (f:Pth) (al:List AV) (r:AV) (l:List (Pth×List AV×AV)) (h:H):nB ((f,al,r)::l) f al h=some r:=by
 simp only [nB,wY,Pth.beq_rfl,nF,Bool.and_self,cond_true]
theorem wI {f g:Pth} (hn:Pth.beq g f=false) (al al':List AV) (r:AV) (l:List (Pth×List AV×AV)) (h:H):nB ((f,al,r)::l) g al' h=nB l g al' h:=by
 simp only [nB,wY,hn,Bool.false_and,cond_false]
theorem jG {l:List (Pth×List AV×AV)} {f:Pth} {al:List AV} {v:AV} {n:Nat} {h:H} (hs:nB l f al h=some v):xC (XF l) (n+1) (.fn f [] []) al h=.ret v h :=
 qF (by rw [List.nil_append,List.append_nil]; exact hs)
section
variable {T:TypD} {nm:List Nat} {p:PadD} {j:Nat} (hl:T.pads.l.length<90000) (hT:T.pads.l[j]?=some p) (hM:zP t95 [.str p.nm] (.bool true))
include hl hT in
theorem bR {l:List (Pth×List AV×AV)} (hF:kC l) (hp:∀ xs,nB l t66 xs h0=none) (cM:∀ h,nB l t95 [.str p.nm] h=some (.bool true)) {v:Nat}
  (hv:hJ T j p.nm=true∧v=6∨hJ T j p.nm=false∧xOs (XF l) p v):zP t66 [.agg (tyC T),.int .i64 (.ofNat j)] (.int .i64 (.ofNat v)):=by
 obtain ⟨v',h',hc,rfl⟩:=zF8 (X:=XF l) hl hT rfl hp rfl (fun h=>jG (cM h)) hv
 exact kU (d:=0) (xKa hF) rfl hc (by simp only [frzs,frz,vR,Bool.and_self]) rfl
include hl hT hM in
theorem zZm (hd:hJ T j p.nm=true):zP t66 [.agg (tyC T),.int .i64 (.ofNat j)] (.int .i64 (.ofNat 6)) :=
 bR hl hT (l:=[(t95,[.str p.nm],.bool true)]) (fun e he=>by rw [List.mem_singleton.1 he]; exact hM) (fun _=>rfl) (fun h=>wZ _ _ _ _ h) (.inl ⟨hd,rfl⟩)
include hT in
theorem zRp (hM:zP t95 [.str p.nm] (.bool false)):zP t66 [.agg (tyC T),.int .i64 (.ofNat j)] (.int .i64 (.ofNat 20)):=by
 have hF:kC [(t95,[.str p.nm],AV.bool false)]:=fun e he=>by rw [List.mem_singleton.1 he]; exact hM
 obtain ⟨v',h',hc,rfl⟩:=zF7 (X:=XF [(t95,[.str p.nm],AV.bool false)]) hT (fun _=>rfl) rfl (fun h=>jG (wZ _ _ _ _ h))
 exact kU (d:=0) (xKa hF) rfl hc (by simp only [frzs,frz,vR,Bool.and_self]) rfl
def xVl (p:PadD) (ck:Int) (bx:List AV) (i:Bool) (more:List (Pth×List AV×AV)):List (Pth×List AV×AV) :=
 (t95,[.str p.nm],.bool true)::(t96,[.agg (pV p)],.int .i64 ck)::(t97,[.agg (pV p)],.agg bx)::(t99,[.agg (pV p),.agg (atC p)],.bool i)::more
include hM in
theorem xB9 {ck:Int} {bx:List AV} {i:Bool} {more:List (Pth×List AV×AV)} (h1:zP t96 [.agg (pV p)] (.int .i64 ck)) (h2:zP t97 [.agg (pV p)] (.agg bx)) (h3:zP t99 [.agg (pV p),.agg (atC p)] (.bool i)) (hm:kC more):kC (xVl p ck bx i more):=fun e he=>by
 unfold xVl at he
 rcases List.mem_cons.1 he with rfl | he
 ·exact hM
 ·rcases List.mem_cons.1 he with rfl | he
  ·exact h1
  ·rcases List.mem_cons.1 he with rfl | he
   ·exact h2
   ·rcases List.mem_cons.1 he with rfl | he
    ·exact h3
    ·exact hm e he
theorem xC9 (ck:Int) (bx:List AV) (i:Bool) (more:List (Pth×List AV×AV)) (h:H):nB (xVl p ck bx i more) t95 [.str p.nm] h=some (.bool true):=wZ _ _ _ _ h
theorem yFq (ck:Int) (bx:List AV) (i:Bool) (more:List (Pth×List AV×AV)) (h:H):nB (xVl p ck bx i more) t96 [.agg (pV p)] h=some (.int .i64 ck) :=
 (wI rfl _ _ _ _ h).trans (wZ _ _ _ _ h)
theorem yFp (ck:Int) (bx:List AV) (i:Bool) (more:List (Pth×List AV×AV)) (h:H):nB (xVl p ck bx i more) t97 [.agg (pV p)] h=some (.agg bx) :=
 (wI rfl _ _ _ _ h).trans ((wI rfl _ _ _ _ h).trans (wZ _ _ _ _ h))
theorem yFr (ck:Int) (bx:List AV) (i:Bool) (more:List (Pth×List AV×AV)) (h:H):nB (xVl p ck bx i more) t99 [.agg (pV p),.agg (atC p)] h=some (.bool i) :=
 (wI rfl _ _ _ _ h).trans ((wI rfl _ _ _ _ h).trans ((wI rfl _ _ _ _ h).trans (wZ _ _ _ _ h)))
theorem zRm (ck:Int) (bx:List AV) (i:Bool) (r:AV) (h:H):nB (xVl p ck bx i [(t100,[.agg (qP p)],r)]) t100 [.agg (qP p)] h=some r :=
 (wI rfl _ _ _ _ h).trans ((wI rfl _ _ _ _ h).trans ((wI rfl _ _ _ _ h).trans ((wI rfl _ _ _ _ h).trans (wZ _ _ _ _ h))))
theorem gT {ck b0 b1 b2 b3:Int} {i:Bool} {more:List (Pth×List AV×AV)} (hfar:∀ n h,nB more t98 [.int .i64 n] h=some (.bool (xB1 n))) :
  GeoF (XF (xVl p ck [.int .i64 b0,.int .i64 b1,.int .i64 b2,.int .i64 b3] i more)) p ck b0 b1 b2 b3 i where
 chk:=fun h=>jG (yFq _ _ _ _ h)
 box:=fun h=>jG (yFp _ _ _ _ h)
 far:=fun n h=>jG ((wI rfl _ _ _ _ h).trans ((wI rfl _ _ _ _ h).trans ((wI rfl _ _ _ _ h).trans ((wI rfl _ _ _ _ h).trans (hfar n h)))))
 ins:=fun h=>jG (yFr _ _ _ _ h)
end
end Go.Abs.Sym
end
section
namespace Go.Abs.Sym
open Go.Abs.T
open Go.Proofs
def zAr (q:PadD) (j:Nat):AV :=
 match j with
 | 0=>.int .i64 q.kd
 | 1=>slV edC q.es
 | 2=>.int .i64 q.r
 | 3=>.int .i64 q.x
 | 4=>.int .i64 q.y
 | _=>.int .i64 q.dr
def xYf (T:TypD) (z:List Nat) (i:Nat):AV:=if i=900 then .str T.nm else if i=901 then .str z else match T.pads.l[i / 10]? with
 | some q=>zAr q (i % 10)
 | none=>.nils
theorem zI8 (T:TypD) (z:List Nat) (i:Nat):frz (xYf T z i)=true:=by
 unfold xYf
 split
 ·rfl
 ·split
  ·rfl
  ·split
   ·unfold zAr
    split
    case h_2=>exact yV xRs _
    all_goals rfl
   ·rfl
theorem zRi (T:TypD) (z:List Nat) (i:Nat):(xYf T z i).one=true:=by
 unfold xYf
 split
 ·rfl
 ·split
  ·rfl
  ·split
   ·unfold zAr
    split
    case h_2=>exact xC5 _ _
    all_goals rfl
   ·rfl
def tdT (T:TypD) (z:List Nat) (w u e:Int) (K:Nat) (σ:Nat→List Nat) (M:Nat) (φ:Nat→List Nat):TokD:=⟨xYf T z,K,σ,M,φ,fun i=>if i=0 then w else if i=1 then u else e,fun _=>0⟩
theorem xYd (T:TypD) (z:List Nat) {w u e:Int} (hw:2≤w) (hu:2≤u) (he:2≤e) {K:Nat} {σ:Nat→List Nat} (hK:KOk K σ) {M:Nat} {φ:Nat→List Nat} (hφ:∀ i,mI (φ i) (xGr M vE)=false):(tdT T z w u e K σ M φ).Ok where
 frz:=zI8 T z
 one:=zRi T z
 ord:=hK
 fre:=hφ
 big:=fun i=>by
  show 2≤if i=0 then w else if i=1 then u else e
  split
  ·exact hw
  ·split<;>assumption
 pos:=fun _=>by show (0:Int)≤0∧(0:Int)≤100000; omega
def qN (T:TypD):List (List Nat):=T.pads.l.map (·.nm)
structure TyI (T:TypD) (gg:AV) (w u:Int):Prop where
 len:T.pads.l.length≤60
 ne:T.pads.l≠[]∧T.pads.kind=1∨T.pads.l=[]∧T.pads.kind=0
 w2:2≤w
 u2:2≤u
 sub:∀ t:Toks,t.val bB=.int .i64 w→t.val (bB+1)=.int .i64 u→gg.subst t=slV jP T.gates
section
variable {T:TypD} {z:List Nat} {w u e:Int} {K:Nat} {σ:Nat→List Nat} {M:Nat} {φ:Nat→List Nat} (ok:(tdT T z w u e K σ M φ).Ok)
theorem xD6 {k:Nat} {q:PadD} (h:T.pads.l[k]?=some q) (hk:k<60) {j:Nat} (hj:j<9):(xH _ ok).val (10*k+j)=zAr q j:=by
 rw [show (xH _ ok).val (10*k+j)=gX (tdT T z w u e K σ M φ) (10*k+j) from rfl,kK (by omega)]
 show xYf T z (10*k+j)=_
 unfold xYf
 rw [if_neg (by omega),if_neg (by omega)]
 have h2:(10*k+j) / 10=k:=by omega
 have h3:(10*k+j) % 10=j:=by omega
 simp only [h2,h3,h]
theorem xNj {k:Nat} {q:PadD} (h:T.pads.l[k]?=some q) (hk:k<60):xK (xH _ ok) (zF9 k q.nm)=qP q:=by
 have h0:=xD6 ok h hk (j:=0) (by decide)
 have h1:=xD6 ok h hk (j:=1) (by decide)
 have h2:=xD6 ok h hk (j:=2) (by decide)
 have h3:=xD6 ok h hk (j:=3) (by decide)
 have h4:=xD6 ok h hk (j:=4) (by decide)
 have h5:=xD6 ok h hk (j:=5) (by decide)
 rw [Nat.add_zero] at h0
 simp only [zF9,xK,AV.subst,h0,h1,h2,h3,h4,h5]
 rfl
theorem xMs (hl:T.pads.l.length≤60):∀ (ps:List PadD) (k:Nat),(∀ i q,ps[i]?=some q→T.pads.l[k+i]?=some q)→xK (xH _ ok) (xX4 k (ps.map (·.nm)))=ps.flatMap qP
 | [],_,_=>rfl
 | q :: ps,k,h=>by
  have ih:=xMs hl ps (k+1) (fun i c' e=>by
   have:=h (i+1) c' e
   rwa [show k+1+i=k+(i+1) by omega])
  have h1:=h 0 q rfl
  rw [Nat.add_zero] at h1
  have hk:k<60:=by
   have:=(List.getElem?_eq_some_iff.1 h1).1
   omega
  simp only [List.map_cons,xX4,kN,ih,xNj ok h1 hk,List.flatMap_cons]
theorem yPu:(xH _ ok).val bB=.int .i64 w:=xOi (t:=tdT T z w u e K σ M φ) (i:=0) (by decide)
theorem yPv:(xH _ ok).val (bB+1)=.int .i64 u:=xOi (t:=tdT T z w u e K σ M φ) (i:=1) (by decide)
theorem yPw:(xH _ ok).val (bB+2)=.int .i64 e:=xOi (t:=tdT T z w u e K σ M φ) (i:=2) (by decide)
theorem xJd {gg:AV} (I:TyI T gg w u):(tyN (qN T) gg).subst (xH _ ok)=.agg (tyC T):=by
 have h900:(xH _ ok).val 900=.str T.nm:=by
  rw [show (xH _ ok).val 900=gX (tdT T z w u e K σ M φ) 900 from rfl,kK (by decide)]; rfl
 have hg:=I.sub (xH _ ok) (yPu ok) (yPv ok)
 have hp:=xMs ok I.len T.pads.l 0 (fun i q h=>by rwa [Nat.zero_add])
 have hps : AV.subst (xH _ ok) (zAs (qN T))=slV qP T.pads:=by
  rcases I.ne with ⟨h1,h2⟩ | ⟨h1,h2⟩
  ·have hs:T.pads=⟨1,T.pads.l⟩:=by
    cases hh:T.pads with
    | mk kd l=>rw [hh] at h2; simp only at h2; rw [h2]
   rw [hs,xT0 qP h1]
   cases hl:T.pads.l with
   | nil=>exact absurd hl h1
   | cons q l =>
    have:zAs (qN T)=.rslc (T.pads.l.length) (xX4 0 (qN T)):=by
     rw [qN,hl]
     simp only [List.map_cons,zAs,List.length_cons,List.length_map]
    rw [this,← hl]
    simp only [AV.subst,qN,hp]
  ·have hs:T.pads=⟨0,[]⟩:=by
    cases hh:T.pads with
    | mk kd l=>rw [hh] at h2 h1; simp only at h1 h2; rw [h2,h1]
   have hn:qN T=[]:=by rw [qN,h1]; rfl
   rw [hn,hs]
   rfl
 simp only [tyN,AV.subst,xK,h900,hg,hps,tyC]
end
theorem xVm {t:Toks} {X:Ctx} {more:Pth→List AV→H→Option AV} (hm:@jH t.env Tryz.prog X more):∀ (nms:List (List Nat)) (cl:List AV) (k:Nat),(∀ c∈cl,frz c=true) →
  (∀ i s c,nms[i]?=some s→cl[i]?=some c→zP t49 (xK t [.agg (zF9 (k+i) s)]) (c.subst t))→@jH t.env Tryz.prog X (zRn k nms cl more)
 | [],_,_,_,_=>hm
 | _::_,[],_,_,_=>hm
 | s :: nms,c::cl,k,hz,h=>nJ t rfl (hz c List.mem_cons_self) (h 0 s c rfl rfl) (xVm hm nms cl (k+1) (fun c hc=>hz c (List.mem_cons_of_mem _ hc)) (fun i s c h1 h2=>by
   have:=h (i+1) s c h1 h2
   rwa [show k+(i+1)=k+1+i by omega] at this))
theorem xVo {t:Toks} {X:Ctx} {ty:AV} (hty:frz ty=true) {more:Pth→List AV→H→Option AV} (hm:@jH t.env Tryz.prog X more):∀ (cr:List AV) (k:Nat),(∀ c∈cr,frz c=true) →
  (∀ i c,cr[i]?=some c→zP t66 [ty.subst t,.int .i64 (.ofNat (k+i))] (c.subst t))→@jH t.env Tryz.prog X (zRo ty k cr more)
 | [],_,_,_=>hm
 | c :: cr,k,hz,h=>nJ t (by simp only [frzs,zj,frz,hty,Bool.and_self]) (hz c List.mem_cons_self) (h 0 c rfl) (xVo hty hm cr (k+1) (fun c hc=>hz c (List.mem_cons_of_mem _ hc)) (fun i c h1=>by
   have:=h (i+1) c h1
   rwa [show k+(i+1)=k+1+i by omega] at this))
theorem xSu:∀ (l:List (List Nat)) (cs:List AV) (seen:List (List Nat)) (k:Nat) (c':AV),(xSt seen l cs)[k]?=some c'→∃ s c,l[k]?=some s∧cs[k]?=some c∧c'=bif mbE s then (bif mI s ((l.take k).reverse++seen) then zj 6 else c) else zj 20
 | [],_,_,_,_,h=>by cases h
 | _::_,[],_,_,_,h=>by cases h
 | s::l,c::cs,seen,0,c',h=>by
  simp only [xSt,List.getElem?_cons_zero,Option.some.injEq] at h
  exact ⟨s,c,rfl,rfl,h.symm⟩
 | s::l,c::cs,seen,k+1,c',h=>by
  simp only [xSt,List.getElem?_cons_succ] at h
  obtain ⟨s',c1,h1,h2,h3⟩:=xSu l cs (s::seen) k c' h
  refine ⟨s',c1,h1,h2,?_⟩
  rw [h3,List.take_succ_cons,List.reverse_cons,List.append_assoc]
  rfl
theorem dZ {s:List Nat}:∀ {l:List (List Nat)},mI s l=true↔s∈l
 | []=>⟨fun h=>(by cases h),fun h=>absurd h List.not_mem_nil⟩
 | a::l=>by
  simp only [mI,Bool.or_eq_true,List.mem_cons,dZ (l:=l),qC]
theorem zI0 {T:TypD} {k:Nat} {s:List Nat}:hJ T k s=mI s (((qN T).take k).reverse++[]):=by
 rw [Bool.eq_iff_iff,dZ]
 simp only [hJ,List.any_eq_true,List.append_nil,List.mem_reverse,qN,← List.map_take,List.mem_map,qC]
structure PadK (q:PadD) (c:Int):Prop where
 lib:zP t49 [.agg (qP q)] (.int .i64 c)
 ref:∀ (T:TypD) (j:Nat),T.pads.l.length<90000→T.pads.l[j]?=some q→zP t95 [.str q.nm] (.bool true)→hJ T j q.nm=false→zP t66 [.agg (tyC T),.int .i64 (.ofNat j)] (.int .i64 c)
def tdZ:TokD:=⟨fun _=>.nils,0,fun _=>[],0,fun _=>[],fun _=>2,fun _=>0⟩
theorem yGa:tdZ.Ok where
 frz:=fun _=>rfl
 one:=fun _=>rfl
 ord:=fun a b _ _ h=>absurd (by show 0 / 4 ^ (8*a+b) % 4=0; rw [Nat.zero_div]) h
 fre:=fun _=>by show mI [] (xGr 0 vE)=false; decide
 big:=fun _=>by show (2:Int)≤2; omega
 pos:=fun _=>by show (0:Int)≤0∧(0:Int)≤100000; omega
def tk0:Toks:=xH tdZ yGa
theorem zXd {td:TokD} (ok:td.Ok) {i:Nat} (hb:mV i=true):(xH td ok).val i=.int .i64 (td.β (i % 8))∧2≤td.β (i % 8):=by
 refine ⟨?_,ok.big _⟩
 show gX td i=_
 unfold gX
 rw [xXi (.inl (xAk hb)),xLj hb,xLi hb,hb]
 rfl
theorem zIz {s:List Nat} (h:inN s=true):zP t95 [.str s] (.bool (mbE s)):=by
 unfold inN at h
 cases hb:mbE s with
 | true =>
  rw [hb] at h
  have hm:([AV.str s],AV.bool true)∈tM:=List.mem_append_left _ (List.mem_map.2 ⟨s,dZ.1 h,rfl⟩)
  exact wS tk0 (yDe _ (List.mem_singleton.2 rfl) _ hm)
 | false =>
  rw [hb] at h
  obtain ⟨e,he,h2⟩:=List.mem_map.1 (dZ.1 h)
  have hm:([AV.str s],AV.bool false)∈tM:=List.mem_append_right _ (List.mem_map.2 ⟨e,he,by rw [h2]⟩)
  exact wS tk0 (yDe _ (List.mem_singleton.2 rfl) _ hm)
theorem zRl {T:TypD} (hl:T.pads.l.length<90000) {j:Nat} {q:PadD} (hq:T.pads.l[j]?=some q) (hin:inN q.nm=true) {c:Int} (hc:PadK q c) :
  zP t66 [.agg (tyC T),.int .i64 (.ofNat j)] (.int .i64 (bif mbE q.nm then (bif hJ T j q.nm then 6 else c) else 20)):=by
 have hM:=zIz hin
 cases hb:mbE q.nm with
 | false=>rw [hb] at hM; exact zRp hq hM
 | true =>
  rw [hb] at hM
  cases hd:hJ T j q.nm with
  | true=>exact zZm hl hq hM hd
  | false=>exact hc.ref T j hl hq hM hd
theorem xUx {T:TypD} {z:List Nat} {w u e:Int} {K:Nat} {σ:Nat→List Nat} {M:Nat} {φ:Nat→List Nat} (ok:(tdT T z w u e K σ M φ).Ok) {v:AV} {b:Bool} (h:zIl v=some b):frz v=true∧∃ n:Int,v.subst (xH _ ok)=.int .i64 n∧(b=true↔n≠0):=by
 unfold zIl at h
 split at h
 ·rename_i n
  cases h
  refine ⟨rfl,n,rfl,?_⟩
  rw [dP]
  simp only [Bool.not_eq_true',decide_eq_false_iff_not,ne_eq]
 ·rename_i i
  cases hb:mV i with
  | false=>rw [hb] at h; cases h
  | true =>
   rw [hb] at h
   cases h
   refine ⟨rfl,?_⟩
   obtain ⟨e1,e2⟩:=zXd ok hb
   exact ⟨_,e1,⟨fun _=>by omega,fun _=>rfl⟩⟩
 ·cases h
section
variable {T:TypD} {gg:AV} {w u:Int} (I:TyI T gg w u)
include I in
theorem xHn {e:Int} (he:2≤e) {r:Bool} {cl:List AV} {p:Bool→Bool→Bool} (row:xLp (qN T) gg r cl p=true) (hr:zP t47 [.str T.nm] (.bool r)) (hr':zP t65 [.str T.nm] (.bool r))
  (hz:∀ c∈cl,frz c=true) (hcl:∀ (t:Toks),t.val (bB+2)=.int .i64 e→∀ (k:Nat) (q:PadD) (c:AV),T.pads.l[k]?=some q→cl[k]?=some c→∃ n,c.subst t=.int .i64 n∧PadK q n) :
  ∃ b1 b2 e1 e2,p b1 b2=true∧(b1=true↔e1≠0)∧(b2=true↔e2≠0)∧zP t17 [.agg (tyC T)] (.int .i64 e1)∧zP t33 [.agg (tyC T)] (.int .i64 e2):=by
 unfold xLp at row
 rw [Bool.and_eq_true,dC] at row
 obtain ⟨hin,row⟩:=row
 rw [Bool.and_eq_true,F.callC_eq,F.callC_eq] at row
 obtain ⟨hfz,row⟩:=row
 have ok:=xYd T [] I.w2 I.u2 he (K:=0) (σ:=fun _=>[]) (fun a b _ _ h=>absurd (by show 0 / 4 ^ (8*a+b) % 4=0; rw [Nat.zero_div]) h) (M:=0) (φ:=fun _=>[]) (fun _=>rfl)
 have hty:=xJd ok I
 have h900:(xH _ ok).val 900=.str T.nm:=by
  rw [show (xH _ ok).val 900=gX (tdT T [] w u e 0 (fun _=>[]) 0 (fun _=>[])) 900 from rfl,kK (by decide)]; rfl
 have hlen:=I.len
 have hinq:∀ (k:Nat) (q:PadD),T.pads.l[k]?=some q→inN q.nm=true:=fun k q h=>List.all_eq_true.1 hin _ (List.mem_map.2 ⟨q,List.mem_of_getElem? h,rfl⟩)
 have hcl':=hcl (xH _ ok) (yPw ok)
 have hrz:∀ c∈xSt [] (qN T) cl,frz c=true:=fun c hc=>by
  obtain ⟨k,hk⟩:=List.mem_iff_getElem?.1 hc
  obtain ⟨s,c1,h1,h2,h3⟩:=xSu _ _ _ _ _ hk
  rw [h3]
  cases mbE s with
  | false=>rfl
  | true =>
   cases mI s (((qN T).take k).reverse++[]) with
   | true=>rfl
   | false=>exact hz c1 (List.mem_of_getElem? h2)
 have xo : @XOK (xH _ ok).env Tryz.prog (XCk (qN T) (tyN (qN T) gg) r cl (xSt [] (qN T) cl)) :=
  @XOK.mk (xH _ ok).env _ _ mixed kV (mT (envI:=(xH _ ok).env)) (nJ _ rfl rfl (by simp only [xK,AV.subst,h900]; exact hr) (nJ _ rfl rfl (by simp only [xK,AV.subst,h900]; exact hr')
   (xVm (xVo hfz (xUs (GOK.cons yO6 GOK.nil) (kX (envI:=(xH _ ok).env))) _ 0 hrz (fun i c hc=>by
     obtain ⟨s,c1,h1,h2,h3⟩:=xSu _ _ _ _ _ hc
     obtain ⟨q,hq,hqn⟩:∃ q,T.pads.l[i]?=some q∧q.nm=s:=by
      rw [qN,List.getElem?_map] at h1
      cases hq:T.pads.l[i]? with
      | none=>rw [hq] at h1; cases h1
      | some q=>rw [hq] at h1; cases h1; exact ⟨q,rfl,rfl⟩
     obtain ⟨n,hn,hk⟩:=hcl' i q c1 hq h2
     have hF:=zRl (by omega) hq (hinq i q hq) hk
     rw [hty,Nat.zero_add,h3]
     rw [← hqn,← zI0]
     cases hb:mbE q.nm with
     | false=>rw [hb] at hF; exact hF
     | true =>
      rw [hb] at hF
      cases hd:hJ T i q.nm with
      | true=>rw [hd] at hF; exact hF
      | false =>
       rw [hd] at hF
       simp only [cond_true,cond_false,hn] at hF ⊢
       exact hF)) _ _ 0 hz (fun i s c h1 h2=>by
    obtain ⟨q,hq,hqn⟩:∃ q,T.pads.l[i]?=some q∧q.nm=s:=by
     rw [qN,List.getElem?_map] at h1
     cases hq:T.pads.l[i]? with
     | none=>rw [hq] at h1; cases h1
     | some q=>rw [hq] at h1; cases h1; exact ⟨q,rfl,rfl⟩
    obtain ⟨n,hn,hk⟩:=hcl' i q c hq h2
    have hi:i<60:=by
     have:=(List.getElem?_eq_some_iff.1 hq).1
     omega
    have hs:=xNj ok hq hi
    rw [Nat.zero_add,← hqn,hn]
    simp only [xK,AV.subst,hs]
    exact hk.lib))))
 split at row
 ·rename_i b1 hb1
  split at row
  ·rename_i b2 hb2
   have fin:∀ {f:Pth} {r0:CRes} {b:Bool},xC (XCk (qN T) (tyN (qN T) gg) r cl (xSt [] (qN T) cl)) 60 (.fn f [] []) [tyN (qN T) gg] h0=r0→zXq r0=some b→∃ n:Int,(b=true↔n≠0)∧zP f [.agg (tyC T)] (.int .i64 n):=by
    intro f r0 b hc hb
    unfold zXq at hb
    split at hb
    ·rename_i v h
     obtain ⟨hv,n,hn,hbn⟩:=xUx ok hb
     have hF:=hY (xH _ ok) xo rfl hc (by simp only [frzs,hfz,Bool.and_self]) (d:=8) (by rw [hH _ _ _ hv]; exact hv)
     rw [hH _ _ _ hv,hn] at hF
     simp only [xK,hty] at hF
     exact ⟨n,hbn,hF⟩
    ·cases hb
   obtain ⟨n1,h1,F1⟩:=fin rfl hb1
   obtain ⟨n2,h2,F2⟩:=fin rfl hb2
   exact ⟨b1,b2,n1,n2,row,h1,h2,F1,F2⟩
  ·cases row
 ·cases row
end
end Go.Abs.Sym
end
end
