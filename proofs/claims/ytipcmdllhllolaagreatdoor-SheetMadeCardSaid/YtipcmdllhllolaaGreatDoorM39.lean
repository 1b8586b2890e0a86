/- The contexts are sound. -/
import Derived.Test.YtipcmdllhllolaaGreatDoorM33
import Derived.Test.YtipcmdllhllolaaGreatDoorM05
import Derived.Test.YtipcmdllhllolaaGreatDoorM37
import Derived.Test.YtipcmdllhllolaaGreatDoorM38
noncomputable section
section
namespace Go.Abs.Sym
open Go.Abs.T
open Go.Proofs
def KE (T0 T1:TypD):Ctx:=over (KD T0 T1) [t8] []
section
variable {T0 T1:TypD}
theorem ke_4 (i:Pth) (h1:Pth.beq i t65=false) (h2:Pth.beq i t29=false) (h3:memP i [t29]=false) (h4:memP i [t8]=false) (xs:List AV) (h:H):(KE T0 T1).sums i xs h=K4.sums i xs h :=
 (over_rest (X:=KD T0 T1) h4 rfl xs h).trans (kd_4 i h1 h2 h3 xs h)
end
end Go.Abs.Sym
end
section
namespace Go.Abs.Sym
open Go.Abs.T
open Go.Proofs
theorem row_call [envI:Env] {P:Program} {X0:Ctx} (xo:XOK P X0) (hg:X0.globs=.lf) {n:Nat} {f:Pth} {args:List AV} {v:AV} {h1:H} (hc:callN X0 n (.fn f [] []) args h0=.ret v h1) {w:World} (ho:OpnW w) {avs:Array Value}
  (hv:VRs w (ρ0 w) (Lv (ρ0 w) h0) args avs.toList):CallR P X0 (ρ0 w) h0 w (callFunc f.num avs) (.ret v h1):=by
 have hR:=callN_ok xo n (.fn f [] []) args h0 (ρ0 w) w (.func (.func f.num) #[] #[]) avs (HR.empty hg ho) (by simp only [VR,VRs]; exact ⟨#[],#[],rfl,rfl,rfl⟩) hv
 rw [hc] at hR
 have hinv:invk (.func (.func f.num) #[] #[]) avs=callFunc f.num avs:=by
  simp only [invk,Deferred.ofValue,pure_bind,invoke,Array.empty_append,Array.append_empty]
 rwa [hinv] at hR
theorem deep_int {d:Nat} {h:H} {v:AV} {k:IntKind} {n:Int} (e:deep (d+1) h v=.int k n):v=.int k n:=by
 cases v<;>simp only [deep,reduceCtorEq] at e
 case int=>exact e
 case slc id off len sz c =>
  cases hc:h.cellsAt id with
  | none=>rw [hc] at e; cases e
  | some cs =>
   rw [hc] at e
   simp only at e
   cases ht:takeD cs off (len*sz) with
   | none=>rw [ht] at e; cases e
   | some l=>rw [ht] at e; cases e
 case mapv id =>
  split at e<;>cases e
section
variable {cs:List (Nat×Nat×Nat)} (hcs:∀ c∈cs,CodeOK c) (h6:cs.length≤6)
include hcs h6 in
theorem pad_fact {k:Nat} (hk:k<cs.length) (w:World) (ho:OpnW w) (avs:Array Value) (hv:@VRs triv w (ρ0 w) (Lv (ρ0 w) h0) [(padTok k).subst (kinT cs)] avs.toList):∃ X0 h1,@CallR triv Tryz.prog X0 (ρ0 w) h0 w (callFunc f_padErr.num avs) (.ret i0 h1):=by
 obtain ⟨c,hc⟩:∃ c,cs[k]?=some c:=⟨_,List.getElem?_eq_getElem hk⟩
 obtain ⟨c1,c2,c3⟩:=hcs c (List.mem_of_getElem? hc)
 have hp:(padTok k).subst (kinT cs)=.agg (padC (padOf k c.1 c.2.1 c.2.2)):=by
  simp only [padTok,AV.subst,padTok_subst hc (show k<10 by omega)]
 rw [hp] at hv
 obtain ⟨X,xo,hgl,_,_,n,v1,h1,e1,e2⟩:=rowsP k c.1 c.2.1 c.2.2 (by omega) c1 c2 c3
 have e3:=deep_int e2
 subst e3
 exact ⟨X,h1,row_call (envI:=triv) xo hgl e1 ho hv⟩
include hcs h6 in
theorem padS_ok (X:Ctx):∀ (m:Nat),m≤cs.length→∀ more,@SumsOK (kinT cs).env Tryz.prog X more→@SumsOK (kinT cs).env Tryz.prog X (padS m more)
 | 0,_,more,h=>h
 | m+1,hm,more,h=>oneSums_ok (kinT cs) (a:=padTok m) (by simp only [padTok,padTokC,frz,frzs,Bool.and_self]) rfl (pad_fact hcs h6 (by omega)) (padS_ok X m (by omega) more h)
include hcs h6 in
theorem okC:@XOK (kinT cs).env Tryz.prog (XC cs.length) :=
 @XOK.mk (kinT cs).env _ _ mixed funcs_ok (exts_ok (envI:=(kinT cs).env)) (padS_ok hcs h6 _ cs.length (Nat.le_refl _) _ (tabSums_ok (envI:=(kinT cs).env) (ok0 (envI:=(kinT cs).env)) rfl rowsN.ok (noSums_ok (envI:=(kinT cs).env))))
include hcs h6 in
theorem chk_call {nm:Bs} (hnm:nm∈[[82],[81]]) {gs:List GateD} (h2:2≤cs.length) (hg:GOK cs.length gs) {X:Ctx} {ρ:Nm} {h:H} {w:World} (hr:@HR triv Tryz.prog X ρ h w) {avs:Array Value} (hv:@VRs triv w ρ (Lv ρ h) [.agg (tyC (tyOf nm cs gs))] avs.toList):@CallR triv Tryz.prog X ρ h w (callFunc f_check.num avs) (.ret i0 h):=by
 obtain ⟨g,hv1,rfl⟩:=vars_of h2 h6 hg
 have hb:chkB nm cs.length g=true:=List.all_eq_true.1 (List.all_eq_true.1 chkAll nm hnm) _ hv1
 rw [chkB,F.callC_eq] at hb
 obtain ⟨h',hc⟩:=isV_ret hb
 have hs:=tyTok_subst (nm:=nm) (cs:=cs) (gs:=gsOf g) (fun e=>by rw [e] at h2; exact absurd h2 (by decide)) (by omega) (gs_no _ hv1)
 have:=tok_sum (kinT cs) (okC hcs h6) rfl (d:=0) hc (by simp only [frzs,frz_tyTok,Bool.and_self]) rfl hr (avs:=avs) (by simp only [substs,hs]; exact hv)
 exact this
end
theorem bus_call {X:Ctx} {ρ:Nm} {h:H} {w:World} (hr:@HR triv Tryz.prog X ρ h w) {avs:Array Value} (hv:@VRs triv w ρ (Lv ρ h) [.agg (tyC busT)] avs.toList):@CallR triv Tryz.prog X ρ h w (callFunc f_check.num avs) (.ret i0 h):=by
 have hb:=busRow
 rw [F.callC_eq] at hb
 obtain ⟨h',hc⟩:=isV_ret hb
 exact sum_frozen (envI:=triv) (ok0 (envI:=triv)) rfl (d:=0) hc (by simp only [frzs,frz,frz_ty,Bool.and_self]) rfl hr hv
structure CodeT (T:TypD):Prop where
 ex:∃ nm cs gs,T=tyOf nm cs gs∧nm∈[[82],[81]]∧2≤cs.length∧cs.length≤6∧(∀ c∈cs,CodeOK c)∧GOK cs.length gs
theorem ty_call {T:TypD} (hT:CodeT T) {X:Ctx} {ρ:Nm} {h:H} {w:World} (hr:@HR triv Tryz.prog X ρ h w) {avs:Array Value} (hv:@VRs triv w ρ (Lv ρ h) [.agg (tyC T)] avs.toList):@CallR triv Tryz.prog X ρ h w (callFunc f_check.num avs) (.ret i0 h):=by
 obtain ⟨nm,cs,gs,rfl,hn,h2,h6,hc,hg⟩:=hT.ex
 exact chk_call hc h6 hn h2 hg hr hv
theorem chkS_ok {T0 T1:TypD} (h0T:CodeT T0) (h1T:CodeT T1) (X:Ctx) {more:Pth→List AV→H→Option AV} (hm:@SumsOK triv Tryz.prog X more):@SumsOK triv Tryz.prog X (chkS T0 T1 more):=by
 intro i args h v hs ρ w avs hr hv
 unfold chkS at hs
 cases hi:Pth.beq i t65 with
 | true =>
  rw [hi] at hs
  rw [Pth.beq_iff.1 hi]
  match args,hs with
  | [a], hs =>
   simp only [cond_true] at hs
   cases hb:AV.beq a (.agg (tyC T0))||AV.beq a (.agg (tyC T1))||AV.beq a (.agg (tyC busT)) with
   | false=>rw [hb] at hs; cases hs
   | true =>
    rw [hb] at hs
    cases hs
    simp only [Bool.or_eq_true] at hb
    rcases hb with (hb | hb) | hb
    ·rw [AV.beq_eq _ _ hb] at hv
     exact ty_call h0T hr hv
    ·rw [AV.beq_eq _ _ hb] at hv
     exact ty_call h1T hr hv
    ·rw [AV.beq_eq _ _ hb] at hv
     exact bus_call hr hv
  | [],hs=>cases hs
  | _::_::_,hs=>cases hs
 | false =>
  rw [hi] at hs
  cases hj:Pth.beq i t29 with
  | true=>rw [hj] at hs; cases hs
  | false =>
   rw [hj] at hs
   exact hm i args h v hs ρ w avs hr hv
theorem lev4:@Lev triv K4:=@Lev.over triv _ (@Lev.over triv _ (@Lev.over triv _ (@Lev.over triv _ (@lev0 triv) _ _) _ _) _ _) _ _
theorem levC {T0 T1:TypD} (h0T:CodeT T0) (h1T:CodeT T1):@Lev triv (KC T0 T1) :=
 @Lev.mk triv _ (@XOK.mk triv _ _ mixed funcs_ok (exts_ok (envI:=triv)) (chkS_ok h0T h1T _ (@Lev.sums triv _ lev4 _))) rfl (fun X=>chkS_ok h0T h1T X (@Lev.sums triv _ lev4 X)) (fun _X i args h v h' he ρ w avs=>exts_ok (envI:=triv) i args h v h' he ρ w avs)
theorem levD {T0 T1:TypD} (h0T:CodeT T0) (h1T:CodeT T1):@Lev triv (KD T0 T1):=@Lev.over triv _ (levC h0T h1T) _ _
theorem levE {T0 T1:TypD} (h0T:CodeT T0) (h1T:CodeT T1):@Lev triv (KE T0 T1):=@Lev.over triv _ (levD h0T h1T) _ _
end Go.Abs.Sym
end
section
namespace Go.Abs.Sym
open Go.Abs.T
open Go.Proofs
def pJ (a b:Bs):Bs:=a++47::b
def pathsL:Nat→Nat→List Bs
 | 1,0=>[[],[120]]
 | 2,0=>[[],[120],[121]]
 | 1,1=>[[],[120],pJ [120] [120]]
 | 1,2=>[[],[120],pJ [120] [120],pJ [120] [121]]
 | 2,1=>[[],[120],pJ [120] [120],[121],pJ [121] [120]]
 | 2,2=>[[],[120],pJ [120] [120],pJ [120] [121],[121],pJ [121] [120],pJ [121] [121]]
 | _,_=>[[]]
def shapes:List (Nat×Nat×Nat):=[(1,0,0),(2,1,0),(2,2,0),(3,1,1),(3,1,2),(3,2,1),(3,2,2)]
def uTok (k:Nat):Nat→AV
 | 0=>.nils
 | 1=>.rslc 1 [.str (subN.getD 0 []),.str (sheetN.getD (k+1) []),.sym (10*k+14)]
 | _=>.rslc 2 [.str (subN.getD 0 []),.str (sheetN.getD (k+1) []),.sym (10*k+14),.str (subN.getD 1 []),.str (sheetN.getD (k+1) []),.sym (10*k+15)]
def shTok (k n:Nat):List AV:=[.str (sheetN.getD k []),.sym (10*k+10),.sym (10*k+11),.sym (10*k+12),.sym (10*k+13),uTok k n]
def shsTok:Nat×Nat×Nat→List AV
 | (1,_,_)=>shTok 0 0
 | (2,a,_)=>shTok 0 a++shTok 1 0
 | (_,a,b)=>shTok 0 a++shTok 1 b++shTok 2 0
def dTok (s:Nat×Nat×Nat):AV:=.agg [.str mainB,.rslc s.1 (shsTok s),.sym 0,.sym 1]
def XT (s:Nat×Nat×Nat):Ctx:={ X0 with sums:=oneSums t8 (dTok s) i0 (fun _ _ _=>none) }
noncomputable def paB (s:Nat×Nat×Nat):Bool:=F.callC (XT s) 50 (.fn t10 [] []) [dTok s] h0 (isD (slV bsC ⟨1,pathsL s.2.1 s.2.2⟩))
theorem paAll:shapes.all paB=true:=by kernel_rfl
end Go.Abs.Sym
end
section
namespace Go.Abs.Sym
open Go.Abs.T
open Go.Proofs
def emptyS:SheetD:=⟨[],⟨0,[]⟩,⟨0,[]⟩,⟨0,[]⟩,⟨0,[]⟩,⟨0,[]⟩⟩
def emptyU:SubD:=⟨[],[],⟨0,[]⟩⟩
def shVal (s:SheetD):Nat→AV
 | 0=>slV bsC s.ports
 | 1=>slV bsC s.power
 | 2=>slV symC s.syms
 | 3=>slV joinC s.joins
 | 4=>slV bindC (s.subs.l.getD 0 emptyU).binds
 | _=>slV bindC (s.subs.l.getD 1 emptyU).binds
def desVal (E:CkE) (i:Nat):AV :=
 if i=0 then slV tyC E.Ts else if i=1 then slV bsC (vaL E.va) else shVal (E.Ss.l.getD (i / 10 - 1) emptyS) (i % 10)
theorem frz_shVal (s:SheetD) (i:Nat):frz (shVal s i)=true:=by
 unfold shVal
 split
 ·exact frz_slV frz_bs _
 ·exact frz_slV frz_bs _
 ·exact frz_slV frz_sym _
 ·exact frz_slV frz_join _
 ·exact frz_slV frz_bind _
 ·exact frz_slV frz_bind _
theorem one_shVal (s:SheetD) (i:Nat):(shVal s i).one=true:=by
 unfold shVal
 split<;>exact on_slV _ _
def desT (E:CkE):Toks:=mkTok (desVal E)
 (fun i=>by
  unfold desVal
  split
  ·exact frz_slV frz_ty _
  ·split
   ·exact frz_slV frz_bs _
   ·exact frz_shVal _ _)
 (fun i=>by
  unfold desVal
  split
  ·exact on_slV _ _
  ·split
   ·exact on_slV _ _
   ·exact one_shVal _ _)
theorem des_at (E:CkE) {k j:Nat} {s:SheetD} (h:E.Ss.l[k]?=some s) (hk:k<50) (hj:j<6):(desT E).val (10*k+10+j)=shVal s j:=by
 show tokU (desVal E) _=_
 rw [tokU_at _ (by omega)]
 have h1:(10*k+10+j) / 10 - 1=k:=by omega
 have h2:(10*k+10+j) % 10=j:=by omega
 have h3:E.Ss.l.getD k emptyS=s:=by simp [List.getD,h]
 rw [desVal,if_neg (by omega),if_neg (by omega),h1,h2,h3]
theorem uTok_subst (E:CkE) {k:Nat} {s:SheetD} (h:E.Ss.l[k]?=some s) (hk:k<50) (hk0:s.subs.kind=0) (hs:SubsOk k s.subs.l) (h2:s.subs.l.length≤2):(uTok k s.subs.l.length).subst (desT E)=slV subC s.subs:=by
 have e4:=des_at E h hk (j:=4) (by decide)
 have e5:=des_at E h hk (j:=5) (by decide)
 simp only [shVal] at e4 e5
 obtain ⟨nm,po,pw,sy,jo,⟨kd,us⟩⟩:=s
 simp only at hk0
 subst hk0
 match us,hs,h2,e4,e5 with
 | [],_,_,_,_=>rfl
 | [u],hs,_,e4,_ =>
  obtain ⟨q1,q2,_,_⟩:=hs 0 u rfl
  simp only [List.length_cons,List.length_nil,uTok,AV.subst,substs,e4]
  show _=AV.rslc 1 (subC u++[])
  simp only [subC,q1,q2,List.append_nil]
  rfl
 | [u,v],hs,_,e4,e5 =>
  obtain ⟨q1,q2,_,_⟩:=hs 0 u rfl
  obtain ⟨q3,q4,_,_⟩:=hs 1 v rfl
  simp only [List.length_cons,List.length_nil,uTok,AV.subst,substs,e4,e5]
  show _=AV.rslc 2 (subC u++(subC v++[]))
  simp only [subC,q1,q2,q3,q4,List.append_nil,List.cons_append,List.nil_append]
  rfl
 | _::_::_::_,_,h2,_,_=>simp at h2
theorem shTok_subst (E:CkE) {va:Bool} {Ts:List TypD} {cnt k:Nat} {s:SheetD} (h:E.Ss.l[k]?=some s) (hk:k<50) (ok:ShOk va Ts k cnt s) (h2:s.subs.l.length≤2):substs (desT E) (shTok k s.subs.l.length)=sheetC s:=by
 have e0:=des_at E h hk (j:=0) (by decide)
 have e1:=des_at E h hk (j:=1) (by decide)
 have e2:=des_at E h hk (j:=2) (by decide)
 have e3:=des_at E h hk (j:=3) (by decide)
 simp only [shVal,Nat.add_zero,Nat.add_assoc] at e0 e1 e2 e3
 obtain ⟨en,_,_,ek,eo,_⟩:=ok
 simp only [shTok,substs,AV.subst,uTok_subst E h hk ek eo h2,e0,e1,e2,e3,sheetC,en]
def shapeOf (cnt:Nat) (l:List SheetD):Nat×Nat×Nat:=(cnt,(l.getD 0 emptyS).subs.l.length,(l.getD 1 emptyS).subs.l.length)
section
variable {T0 T1:TypD} {E:CkE} {cnt:Nat} (K:DesK T0 T1 E cnt)
include K
theorem shape_mem:shapeOf cnt E.Ss.l∈shapes:=by
 have hl:=K.ln
 have h1:=K.h1
 have h3:=K.h3
 have sub:∀ (k:Nat) s,E.Ss.l[k]?=some s→(cnt≤k+1→s.subs.l.length=0)∧(k+1<cnt→s.subs.l.length=1∨s.subs.l.length=2):=fun k s hk=>by
  obtain ⟨_,_,_,_,_,q0,q1⟩:=K.ok k s hk
  exact ⟨fun q=>by rw [q0 q]; rfl,fun q=>by have:=q1 q; omega⟩
 generalize E.Ss.l=l at hl sub
 match l,hl,sub with
 | [a],hl,sub =>
  have hcn:cnt=1:=hl.symm
  subst hcn
  simp only [shapeOf,List.getD_cons_zero,(sub 0 a rfl).1 (by omega)]
  exact (by decide:(1,0,0)∈shapes)
 | [a,b],hl,sub =>
  have hcn:cnt=2:=hl.symm
  subst hcn
  have e1:=(sub 1 b rfl).1 (by omega)
  rcases (sub 0 a rfl).2 (by omega) with e0 | e0
  all_goals
   simp only [shapeOf,List.getD_cons_zero,List.getD_cons_succ,e0,e1]
   decide
 | [a,b,c],hl,sub =>
  have hcn:cnt=3:=hl.symm
  subst hcn
  rcases (sub 0 a rfl).2 (by omega) with e0 | e0<;>rcases (sub 1 b rfl).2 (by omega) with e1 | e1
  all_goals
   simp only [shapeOf,List.getD_cons_zero,List.getD_cons_succ,e0,e1]
   decide
 | [],hl,_=>simp at hl; omega
 | _::_::_::_::_,hl,_=>simp at hl; omega
theorem dTok_subst:(dTok (shapeOf cnt E.Ss.l)).subst (desT E)=.agg E.d4:=by
 have hl:=K.ln
 have h1:=K.h1
 have h3:=K.h3
 have t0:(desT E).val 0=slV tyC E.Ts:=rfl
 have t1:(desT E).val 1=slV bsC (vaL E.va):=rfl
 have hsh:∀ (k:Nat) s,E.Ss.l[k]?=some s→k<50→substs (desT E) (shTok k s.subs.l.length)=sheetC s:=fun k s hk h5 =>
  shTok_subst E hk h5 (K.ok k s hk) (sub_ok K.ok h3 hl hk).1
 have hz:∀ (k:Nat) s,E.Ss.l[k]?=some s→cnt≤k+1→s.subs.l.length=0:=fun k s hk q=>by
  obtain ⟨_,_,_,_,_,q0,_⟩:=K.ok k s hk
  rw [q0 q]; rfl
 have hv:slV sheetC E.Ss=.rslc cnt (E.Ss.l.flatMap sheetC):=by
  rw [← hl]
  cases hq:E.Ss.l with
  | nil=>rw [hq] at hl; simp at hl; omega
  | cons a l=>unfold slV; rw [hq]; rfl
 have key:substs (desT E) (shsTok (shapeOf cnt E.Ss.l))=E.Ss.l.flatMap sheetC:=by
  generalize E.Ss.l=l at hl hsh hz
  match l,hl,hsh,hz with
  | [a],hl,hsh,hz =>
   have hcn:cnt=1:=hl.symm
   subst hcn
   have e0:=hsh 0 a rfl (by decide)
   rw [hz 0 a rfl (by decide)] at e0
   simp only [shapeOf,shsTok,e0,List.flatMap_cons,List.flatMap_nil,List.append_nil]
  | [a,b],hl,hsh,hz =>
   have hcn:cnt=2:=hl.symm
   subst hcn
   have e0:=hsh 0 a rfl (by decide)
   have e1:=hsh 1 b rfl (by decide)
   rw [hz 1 b rfl (by decide)] at e1
   simp only [shapeOf,shsTok,substs_append,List.getD_cons_zero,e0,e1,List.flatMap_cons,List.flatMap_nil,List.append_nil]
  | [a,b,c],hl,hsh,hz =>
   have hcn:cnt=3:=hl.symm
   subst hcn
   have e0:=hsh 0 a rfl (by decide)
   have e1:=hsh 1 b rfl (by decide)
   have e2:=hsh 2 c rfl (by decide)
   rw [hz 2 c rfl (by decide)] at e2
   simp only [shapeOf,shsTok,substs_append,List.getD_cons_zero,List.getD_cons_succ,e0,e1,e2,List.flatMap_cons,List.flatMap_nil,List.append_nil,List.append_assoc]
  | [],hl,_,_=>simp at hl; omega
  | _::_::_::_::_,hl,_,_=>simp at hl; omega
 simp only [dTok,AV.subst,substs,key,t0,t1,CkE.d4,hv,K.top]
 rfl
end
end Go.Abs.Sym
end
end
