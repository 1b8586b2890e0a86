/- The same for the whole tree of functions. -/
import Derived.Test.YtipcmdllhllolaaGreatDoorK18
import Derived.Test.YtipcmdllhllolaaGreatDoorK17
import Derived.Shelf.Strings.OnBuilder
import Derived.Shelf.Strings.Search2
import Derived.Lib.Bytealg
import Derived.Laws.StandIn
import Derived.Shelf.Spec.SlicesGrow
import Derived.Test.YtipcmdllhllolaaGreatDoorK16
noncomputable section
section
namespace Go.Abs.T
open Go.Proofs
set_option maxRecDepth 10000
theorem allGood:AG funcs 1 0:=(an (an (an (aw k7 (an (aw k31 (aw k63 (az _ _ _) (az _ _ _)) (az _ _ _)) (an (aw k79 (az _ _ _) (az _ _ _)) (aw k111 (az _ _ _) (az _ _ _)))) (aw k23 (az _ _ _) (an (az _ _ _) (aw k119 (az _ _ _) (az _ _ _))))) (an (aw k19 (aw k35 (az _ _ _) (az _ _ _)) (az _ _ _)) (aw k27 (aw k43 (aw k75 (az _ _ _) (az _ _ _)) (az _ _ _)) (an (an (aw k155 (az _ _ _) (az _ _ _)) (az _ _ _)) (az _ _ _))))) (aw k5 (an (az _ _ _) (aw k25 (an (az _ _ _) (aw k105 (az _ _ _) (az _ _ _))) (az _ _ _))) (aw k13 (an (aw k37 (az _ _ _) (az _ _ _)) (an (az _ _ _) (aw k117 (az _ _ _) (az _ _ _)))) (aw k29 (an (aw k77 (az _ _ _) (az _ _ _)) (aw k109 (az _ _ _) (az _ _ _))) (aw k61 (az _ _ _) (az _ _ _)))))) (an (an (aw k8 (an (aw k32 (aw k64 (az _ _ _) (az _ _ _)) (az _ _ _)) (az _ _ _)) (an (an (aw k72 (az _ _ _) (az _ _ _)) (az _ _ _)) (az _ _ _))) (an (aw k20 (aw k36 (az _ _ _) (az _ _ _)) (az _ _ _)) (aw k28 (an (az _ _ _) (aw k108 (az _ _ _) (az _ _ _))) (az _ _ _)))) (an (aw k10 (an (aw k34 (aw k66 (az _ _ _) (az _ _ _)) (az _ _ _)) (az _ _ _)) (aw k26 (az _ _ _) (az _ _ _))) (aw k14 (aw k22 (az _ _ _) (an (az _ _ _) (aw k118 (az _ _ _) (az _ _ _)))) (an (an (aw k78 (az _ _ _) (az _ _ _)) (aw k110 (az _ _ _) (az _ _ _))) (aw k62 (az _ _ _) (az _ _ _)))))))
end Go.Abs.T
end
section
set_option maxRecDepth 10000
namespace Go.Abs.T
open Go.Proofs Go.Shelf
theorem CallR.of_calls [envI : Env] {P : Program} {X : Ctx} {ρ : Nm} {h : H} {w : World} {f : FuncId} {fn : Func} {body : Code} {avs : Array Value} {v : AV} {h' : H} (h1 : P.funcs[f]? = some fn) (h2 : fn.body = some body) (h3 : (fn.name == "runtime.NumGoroutine") = false)
  (hc:Calls P f avs w (fun e w'=>∃ vv,e=.returned vv∧Back P X ρ h w v h' vv w')):CallR P X ρ h w (callFunc f avs) (.ret v h'):=by
 refine ⟨_,w,run_callFunc_enter (P:=P) h1 h2 h3 avs w,.inr ⟨_,rfl,fun c cs => ?_⟩⟩
 obtain ⟨e,w',fr,⟨vv,rfl,hB⟩,hcomes,_,hleave⟩:=hc (c::cs)
 exact ⟨vv,w',hB,Steps.trans hcomes (Steps.one (step_leave_returned hleave))⟩
def joinR:Ren:=⟨fun | 156=>46 | 165=>95 | 166=>96 | 169=>97 | 240=>136 | 241=>137 | 276=>169 | 277=>170 | n=>n,fun | 31=>26 | 9=>9 | 3=>3 | 4=>4 | 0=>0 | 20=>20 | 72=>163 | 76=>167 | 70=>161 | 37=>48 | 75=>166 | 127=>198 | 164=>219 | 5=>5 | 80=>169 | n=>n,fun n=>n⟩
theorem joinL:Lays.n156 Tryz.prog joinR where
 mixed:=by kernel_rfl
 f156:=Tryz.func46.trans (congrArg some (by kernel_rfl))
 f165:=Tryz.func95.trans (congrArg some (by kernel_rfl))
 f166:=Tryz.func96.trans (congrArg some (by kernel_rfl))
 f169:=Tryz.func97.trans (congrArg some (by kernel_rfl))
 f240:=Tryz.func136.trans (congrArg some (by kernel_rfl))
 f241:=Tryz.func137.trans (congrArg some (by kernel_rfl))
 f276:=Tryz.func169.trans (congrArg some (by kernel_rfl))
 f277:=Tryz.func170.trans (congrArg some (by kernel_rfl))
 t0:=Tryz.underlying0
 a0:=Tryz.isAgg0
 z0:=Tryz.sizeOf0
 v0:=Tryz.zeroValue0
 t3:=Tryz.underlying3
 a3:=Tryz.isAgg3
 z3:=Tryz.sizeOf3
 v3:=Tryz.zeroValue3
 t4:=Tryz.underlying4
 a4:=Tryz.isAgg4
 z4:=Tryz.sizeOf4
 v4:=Tryz.zeroValue4
 t9:=Tryz.underlying9
 a9:=Tryz.isAgg9
 z9:=Tryz.sizeOf9
 v9:=Tryz.zeroValue9
 t20:=Tryz.underlying20
 a20:=Tryz.isAgg20
 z20:=Tryz.sizeOf20
 v20:=Tryz.zeroValue20
 t31:=Tryz.underlying26
 a31:=Tryz.isAgg26
 z31:=Tryz.sizeOf26
 v31:=Tryz.zeroValue26
 t37:=Tryz.underlying48
 a37:=Tryz.isAgg48
 z37:=Tryz.sizeOf48
 v37:=Tryz.zeroValue48
 t70:=Tryz.underlying161
 a70:=Tryz.isAgg161
 z70:=Tryz.sizeOf161
 v70:=Tryz.zeroValue161
 t72:=Tryz.underlying163
 a72:=Tryz.isAgg163
 z72:=Tryz.sizeOf163
 v72:=Tryz.zeroValue163
 t75:=Tryz.underlying166
 a75:=Tryz.isAgg166
 z75:=Tryz.sizeOf166
 v75:=Tryz.zeroValue166
 t76:=Tryz.underlying167
 a76:=Tryz.isAgg167
 z76:=Tryz.sizeOf167
 v76:=Tryz.zeroValue167
 t127:=Tryz.underlying198
 a127:=Tryz.isAgg198
 z127:=Tryz.sizeOf198
 v127:=Tryz.zeroValue198
 t164:=Tryz.underlying219
 a164:=Tryz.isAgg219
 z164:=Tryz.sizeOf219
 v164:=Tryz.zeroValue219
theorem joinX:Builder.Extra Tryz.prog joinR where
 sizeBuilder:=by kernel_rfl
 liesBuilder:=by kernel_rfl
 t5:=Tryz.underlying5
 a5:=Tryz.isAgg5
 z5:=Tryz.sizeOf5
 v5:=Tryz.zeroValue5
 infoByte:=by kernel_rfl
 cellsByte:=by kernel_rfl
 sizeByte:=by kernel_rfl
 neB5:=by decide
theorem joinN_eq (sep:List UInt8):∀ xs:List (List UInt8),joinN (sep.map (·.toNat)) (xs.map (·.map (·.toNat)))=(Lib.join xs sep).map (·.toNat)
 | []=>rfl
 | [a]=>by rw [Lib.join_one]; rfl
 | a :: b::l=>by
  have ih:=joinN_eq sep (b::l)
  have e:Lib.join (a::b::l) sep=a++(sep++Lib.join (b::l) sep):=by
   rw [Lib.join_cons,Lib.join_cons]
   simp [Lib.joinTail]
  rw [e]
  simp only [List.map_cons,joinN,List.map_append] at ih ⊢
  rw [ih]
theorem strs_bytes [envI:Env] {w:World} {ρ:Nm} {L:Nat→Prop}:∀ {l:List AV} {ls:List (List Nat)} {vs:List Value},strsJ l=some ls→VRs w ρ L l vs→∃ xs:List ByteArray,vs=xs.map .string∧ls=xs.map bytesL
 | [],ls,vs,h,hv=>by
  simp only [strsJ,Option.some.injEq] at h
  simp only [VRs] at hv
  exact ⟨[],hv,h.symm⟩
 | a::l,ls,vs,h,hv=>by
  cases a<;>simp only [strsJ,reduceCtorEq,Option.map_eq_some_iff] at h
  obtain ⟨ls',h1,rfl⟩:=h
  simp only [VRs,VR] at hv
  obtain ⟨v,vs',rfl,⟨x,rfl,hx⟩,h3⟩:=hv
  obtain ⟨xs,rfl,rfl⟩:=strs_bytes h1 h3
  exact ⟨x::xs,rfl,by rw [List.map_cons,hx]⟩
theorem sl_cells [envI:Env] {P:Program} {X:Ctx} {ρ:Nm} {h:H} {w:World} (hr:HR P X ρ h w) {x:AV} {xv:Value} {n:Nat} {l:List AV} (hx:VR w ρ (Lv ρ h) x xv) (hs:∀ s,x≠.str s) (e1:lenA x=some n) (e2:firstA h 1 n x=some l) :
  (n=0∧∃ a c,xv=.slice a 0 c)∨∃ b off c cc el fz,xv=.slice (some ⟨b,off,none⟩) n c∧n≤c∧w.heap[b]?=some (.cells cc el fz)∧VRs w ρ (Lv ρ h) l ((cc.toList.drop off).take n)∧l.length=n:=by
 cases x<;>simp only [lenA,reduceCtorEq,Option.some.injEq] at e1
 case str s=>exact absurd rfl (hs s)
 case nils=>simp only [VR] at hx; exact .inl ⟨e1.symm,none,0,hx⟩
 case eslc=>simp only [VR] at hx; obtain ⟨a,rfl⟩:=hx; exact .inl ⟨e1.symm,a,0,rfl⟩
 case slc id off len sz cap =>
  subst e1
  simp only [VR] at hx
  obtain ⟨b,c,h1,rfl,h2,_⟩:=hx
  simp only [firstA] at e2
  cases hb:(Nat.beq 1 sz&&Nat.ble len len) with
  | false=>rw [hb] at e2; cases e2
  | true =>
   rw [hb] at e2
   simp only [cond_true] at e2
   cases hc:h.cellsAt id with
   | none=>rw [hc] at e2; cases e2
   | some cs =>
    rw [hc] at e2
    obtain ⟨cc,el,fz,h3,h4⟩:=hr.cellsAt hc h1
    obtain ⟨g1,_,g3⟩:=takeD_rel e2 h4
    rw [Nat.mul_one] at g1 g3
    exact .inr ⟨b,off,c,cc,el,fz,rfl,h2,h3,g3,g1⟩
 case rslc len cs =>
  subst e1
  simp only [VR] at hx
  obtain ⟨a,c,rfl,h1,h2⟩:=hx
  simp only [firstA] at e2
  have hb:Nat.ble len len=true:=by simp
  rw [hb] at e2
  simp only [cond_true] at e2
  rcases h2 with ⟨rfl,_⟩ | ⟨b,off,cc,el,fz,rfl,h3,h4,h5⟩
  ·refine .inl ?_
   have h0:len=0:=by
    rcases takeD_spec e2 with ⟨_,_,e3⟩ | ⟨_,e3⟩
    ·simp only [List.length_nil] at e3; omega
    ·omega
   exact ⟨h0,a,c,by rw [h0]⟩
  ·obtain ⟨g1,_,g3⟩:=takeD_rel e2 h5
   rw [Nat.mul_one] at g1 g3
   refine .inr ⟨b,off,c,cc,el,fz,rfl,h1,h4,?_,g1⟩
   simpa using g3
theorem join_ok [envI:Env] {X:Ctx} {ρ:Nm} {h:H} {w:World} (hr:HR Tryz.prog X ρ h w) {x:AV} {sep:List Nat} {v:AV} {h':H} (he:joinH h x sep=some (v,h')) {avs:Array Value} (hv:VRs w ρ (Lv ρ h) [x,.str sep] avs.toList) :
  CallR Tryz.prog X ρ h w (callFunc 46 avs) (.ret v h'):=by
 have hs:∀ s,x≠.str s:=fun s e=>by subst e; cases he
 have he2:(match lenA x with
  | some n=>match firstA h 1 n x with
   | some l=>match strsJ l with
    | some ls=>bif Nat.blt n 1000000&&Nat.blt (joinN sep ls).length 1000000 then some (AV.str (joinN sep ls),h) else none
    | none=>none
   | none=>none
  | none=>none)=some (v,h'):=by
  cases x<;>first | exact he | exact absurd rfl (hs _)
 clear he
 cases hn:lenA x with
 | none=>rw [hn] at he2; cases he2
 | some n =>
 rw [hn] at he2
 simp only at he2
 cases hl:firstA h 1 n x with
 | none=>rw [hl] at he2; cases he2
 | some l =>
 rw [hl] at he2
 simp only at he2
 cases hj:strsJ l with
 | none=>rw [hj] at he2; cases he2
 | some ls =>
 rw [hj] at he2
 simp only at he2
 cases hb:(Nat.blt n 1000000&&Nat.blt (joinN sep ls).length 1000000) with
 | false=>rw [hb] at he2; cases he2
 | true =>
 rw [hb] at he2
 cases he2
 rw [Bool.and_eq_true,Nat.blt_eq,Nat.blt_eq] at hb
 simp only [VRs,VR] at hv
 obtain ⟨xv,us,e1,hx,sv,us',rfl,⟨sb,rfl,hsb⟩,rfl⟩:=hv
 have havs:avs = #[xv,.string sb]:=by apply Array.ext'; simpa using e1
 rw [havs]
 refine CallR.of_calls Tryz.func46 rfl (by decide) ?_
 rcases sl_cells hr hx hs hn hl with ⟨rfl,a,c,rfl⟩ | ⟨b,off,c,cc,el,fz,rfl,h1,h2,h3,h4⟩
 ·refine (Any.strings_Join_none joinL joinX a c sb w).mono ?_
  rintro e w' ⟨rfl,rfl⟩
  have h0 : ls=[]:=by
   have : l = []:=by
    cases x<;>simp only [lenA,reduceCtorEq,Option.some.injEq] at hn<;>first | exact absurd rfl (hs _) | skip
    all_goals
     simp only [firstA,hn] at hl
    all_goals first | (simp at hl; exact hl) | skip
    case slc id off len sz cap =>
     subst hn
     cases hq:(Nat.beq 1 sz&&Nat.ble 0 0) with
     | false=>rw [hq] at hl; cases hl
     | true =>
      rw [hq] at hl
      simp only [cond_true] at hl
      cases hc:h.cellsAt id with
      | none=>rw [hc] at hl; cases hl
      | some cs =>
       rw [hc] at hl
       rcases takeD_spec hl with ⟨_,e2,_⟩ | ⟨e2,_⟩
       ·exact List.eq_nil_of_length_eq_zero (by omega)
       ·exact e2
    case rslc len cs =>
     subst hn
     have hq:Nat.ble 0 0=true:=rfl
     rw [hq] at hl
     simp only [cond_true] at hl
     rcases takeD_spec hl with ⟨_,e2,_⟩ | ⟨e2,_⟩
     ·exact List.eq_nil_of_length_eq_zero (by omega)
     ·exact e2
   rw [this] at hj
   simpa [strsJ] using hj.symm
  subst h0
  exact ⟨_,rfl,ρ,hr,Sim.refl ..,by simp only [VR]; exact ⟨_,rfl,rfl⟩⟩
 ·obtain ⟨xs,e3,rfl⟩:=strs_bytes hj h3
  have hlen:xs.length=n:=by
   have:=h3.length
   rw [e3,List.length_map] at this
   omega
  have hsep:sep=sb.data.toList.map (·.toNat):=by rw [← hsb]; rfl
  have hjn:joinN sep (xs.map bytesL)=(Lib.join (xs.map (·.data.toList)) sb.data.toList).map (·.toNat):=by
   rw [hsep,← joinN_eq,List.map_map]
   rfl
  rw [hjn,List.length_map] at hb
  have hR:=Any.strings_Join joinL joinX b off c xs sb w (fun j x hx=>by
   rw [cell_of_row w b (off+j) cc el fz h2]
   have h5:(xs.map Value.string)[j]?=some (.string x):=by rw [List.getElem?_map,hx]; rfl
   rw [← e3,List.getElem?_take,List.getElem?_drop] at h5
   split at h5
   ·simpa using h5
   ·cases h5) (lt_of_heap h2) (by omega) (by omega) (by omega)
  rw [hlen] at hR
  refine hR.mono ?_
  rintro e w' ⟨rfl,hB⟩
  have hsim:Sim ρ (Lv ρ h) w ρ (Lv ρ h) w':=kept_sim hB.block hB.size hB.os hB.output hB.tape
  refine ⟨_,rfl,ρ,hr.later hB.block hB.size hsim,hsim,?_⟩
  simp only [VR]
  exact ⟨_,rfl,by rw [hjn]; simp [bytesL]⟩
def ixR:Ren:=⟨fun | 219=>147 | 217=>187 | 225=>151 | 224=>150 | 267=>188 | 266=>233 | 314=>234 | n=>n,fun | 9=>9 | 3=>3 | 4=>4 | 5=>5 | 46=>211 | 146=>287 | 51=>286 | n=>n,fun | 1=>0 | n=>n⟩
theorem ixL:Lays.n219 Tryz.prog ixR where
 mixed:=by kernel_rfl
 f217:=Tryz.func187.trans (congrArg some (by kernel_rfl))
 f219:=Tryz.func147.trans (congrArg some (by kernel_rfl))
 f224:=Tryz.func150.trans (congrArg some (by kernel_rfl))
 f225:=Tryz.func151.trans (congrArg some (by kernel_rfl))
 f266:=Tryz.func233.trans (congrArg some (by kernel_rfl))
 f267:=Tryz.func188.trans (congrArg some (by kernel_rfl))
 f314:=Tryz.func234.trans (congrArg some (by kernel_rfl))
 t3:=Tryz.underlying3
 a3:=Tryz.isAgg3
 z3:=Tryz.sizeOf3
 v3:=Tryz.zeroValue3
 t4:=Tryz.underlying4
 a4:=Tryz.isAgg4
 z4:=Tryz.sizeOf4
 v4:=Tryz.zeroValue4
 t5:=Tryz.underlying5
 a5:=Tryz.isAgg5
 z5:=Tryz.sizeOf5
 v5:=Tryz.zeroValue5
 t9:=Tryz.underlying9
 a9:=Tryz.isAgg9
 z9:=Tryz.sizeOf9
 v9:=Tryz.zeroValue9
 t46:=Tryz.underlying211
 a46:=Tryz.isAgg211
 z46:=Tryz.sizeOf211
 v46:=Tryz.zeroValue211
 t51:=Tryz.underlying286
 a51:=Tryz.isAgg286
 z51:=Tryz.sizeOf286
 v51:=Tryz.zeroValue286
 t146:=Tryz.underlying287
 a146:=Tryz.isAgg287
 z146:=Tryz.sizeOf287
 v146:=Tryz.zeroValue287
 g1:=by kernel_rfl
theorem isPre_eq:∀ x y:List UInt8,isPre (x.map (·.toNat)) (y.map (·.toNat))=x.isPrefixOf y
 | [],_=>by simp [isPre]
 | _::_,[]=>rfl
 | a :: x,b::y=>by
  have ih:=isPre_eq x y
  simp only [List.map_cons,isPre,List.isPrefixOf,ih]
  by_cases hb:a=b
  ·subst hb
   simp
  ·have h1:Nat.beq a.toNat b.toNat=false:=by
    cases h:Nat.beq a.toNat b.toNat with
    | false=>rfl
    | true=>exact absurd (UInt8.toNat_inj.1 (Nat.eq_of_beq_eq_true h)) hb
   have h2:(a==b)=false:=by simpa using hb
   rw [h1,h2]
theorem indexN_eq:∀ (l sub:List UInt8) (k:Nat),indexN k (l.map (·.toNat)) (sub.map (·.toNat))=if Lib.index l sub = -1 then -1 else Lib.index l sub+k
 | [],sub,k=>by
  cases sub with
  | nil=>simp [indexN,Lib.index]
  | cons a l=>rfl
 | b :: l,sub,k=>by
  have ih:=indexN_eq l sub (k+1)
  have hge:=Lib.index_ge l sub
  have hstep:Lib.index (b::l) sub=if sub.isPrefixOf (b::l) then 0 else if Lib.index l sub == -1 then -1 else Lib.index l sub+1:=rfl
  generalize Lib.index (b::l) sub=z at hstep ⊢
  subst hstep
  have hp:=isPre_eq sub (b::l)
  simp only [List.map_cons] at hp
  simp only [List.map_cons,indexN,hp]
  cases sub.isPrefixOf (b::l) with
  | true=>simp
  | false =>
   simp only [cond_false,ih,Bool.false_eq_true,if_false]
   by_cases hx:Lib.index l sub = -1
   ·simp [hx]
   ·have h3:(Lib.index l sub == -1)=false:=by simpa using hx
    simp only [h3,Bool.false_eq_true,if_false]
    rw [if_neg hx,if_neg (by omega)]
    omega
theorem index_ok [envI:Env] {X:Ctx} {ρ:Nm} {h:H} {w:World} (hr:HR Tryz.prog X ρ h w) {s sub:List Nat} (hs:s.length<4000000000) {avs:Array Value} (hv:VRs w ρ (Lv ρ h) [.str s,.str sub] avs.toList) :
  CallR Tryz.prog X ρ h w (callFunc 147 avs) (.ret (.int .i64 (indexN 0 s sub)) h):=by
 simp only [VRs,VR] at hv
 obtain ⟨u,us,e1,⟨x,rfl,hx⟩,u',us',rfl,⟨y,rfl,hy⟩,rfl⟩:=hv
 have havs:avs = #[.string x,.string y]:=by apply Array.ext'; simpa using e1
 rw [havs]
 obtain ⟨⟨c,el,fz,vs,m,h1,h2⟩,_⟩:=hr.opn
 have hm:w.cell? ⟨0,0,none⟩=some (.int .i64 m):=by
  rw [cell_of_row w 0 0 c el fz h1]
  have:c.toList[0]?=some (.int .i64 m):=by rw [h2]; rfl
  simpa using this
 have hsz:x.size<4294967281:=by
  have:(bytesL x).length=x.size:=by simp only [bytesL,List.length_map]; rfl
  rw [hx] at this
  omega
 refine CallR.of_calls Tryz.func147 rfl (by decide) ?_
 refine (Any.stringslite_Index ixL x y m w hsz hm).mono ?_
 rintro e w' ⟨rfl,rfl⟩
 refine ⟨_,rfl,ρ,hr,Sim.refl ..,?_⟩
 have:=indexN_eq x.data.toList y.data.toList 0
 simp only [VR]
 rw [← hx,← hy]
 simp only [bytesL] at this ⊢
 rw [this]
 by_cases hq:Lib.index x.data.toList y.data.toList = -1
 ·rw [if_pos hq,hq]
 ·rw [if_neg hq]; simp
end Go.Abs.T
end
section
set_option maxRecDepth 10000
namespace Go.Abs.T
open Go.Proofs Go.Shelf
theorem ixN_eq:∀ (l:List UInt8) (c:UInt8) (k:Nat),ixN k (l.map (·.toNat)) c.toNat=if Lib.indexByte l c = -1 then -1 else Lib.indexByte l c+k
 | [],c,k=>rfl
 | b :: l,c,k=>by
  have ih:=ixN_eq l c (k+1)
  have hge:=Lib.indexByte_ge l c
  have hstep:Lib.indexByte (b::l) c=if b==c then 0 else if Lib.indexByte l c == -1 then -1 else Lib.indexByte l c+1:=rfl
  generalize Lib.indexByte (b::l) c=z at hstep ⊢
  subst hstep
  simp only [List.map_cons,ixN]
  by_cases hb:b=c
  ·subst hb
   have:Nat.beq b.toNat b.toNat=true:=by simp
   rw [this]
   simp
  ·have h1:Nat.beq b.toNat c.toNat=false:=by
    cases h:Nat.beq b.toNat c.toNat with
    | false=>rfl
    | true=>exact absurd (UInt8.toNat_inj.1 (Nat.eq_of_beq_eq_true h)) hb
   have h2:(b==c)=false:=by simpa using hb
   simp only [h1,h2,cond_false,Bool.false_eq_true,if_false,ih]
   by_cases hx:Lib.indexByte l c = -1
   ·simp [hx]
   ·have h3:(Lib.indexByte l c == -1)=false:=by simpa using hx
    simp only [h3,Bool.false_eq_true,if_false]
    rw [if_neg hx,if_neg (by omega)]
    omega
theorem cntN_eq:∀ (l:List UInt8) (c:UInt8),cntN (l.map (·.toNat)) c.toNat=Lib.countByte l c
 | [],_=>rfl
 | b :: l,c=>by
  have ih:=cntN_eq l c
  unfold Lib.countByte at ih ⊢
  rw [List.count_cons]
  simp only [List.map_cons,cntN]
  by_cases hb:b=c
  ·subst hb
   have:Nat.beq b.toNat b.toNat=true:=by simp
   rw [this,cond_true,ih]
   simp
  ·have h1:Nat.beq b.toNat c.toNat=false:=by
    cases h:Nat.beq b.toNat c.toNat with
    | false=>rfl
    | true=>exact absurd (UInt8.toNat_inj.1 (Nat.eq_of_beq_eq_true h)) hb
   have h2:(b==c)=false:=by simpa using hb
   simp only [h1,h2,cond_false,ih]
   simp
def growN:Ren:=⟨fun n=>if n=4 then 116 else n,fun n=>if n=22 then 26 else if n=25 then 9 else n,fun n=>n⟩
theorem growL:Lays8.n4 Tryz.prog growN where
 mixed:=by kernel_rfl
 f4 := ⟨"slices.Grow[[]string,string]",by decide,Tryz.func116.trans (congrArg some (by kernel_rfl))⟩
 t0:=Tryz.underlying0
 a0:=Tryz.isAgg0
 z0:=Tryz.sizeOf0
 v0:=Tryz.zeroValue0
 t3:=Tryz.underlying3
 a3:=Tryz.isAgg3
 z3:=Tryz.sizeOf3
 v3:=Tryz.zeroValue3
 t4:=Tryz.underlying4
 a4:=Tryz.isAgg4
 z4:=Tryz.sizeOf4
 v4:=Tryz.zeroValue4
 t9:=Tryz.underlying9
 a9:=Tryz.isAgg9
 z9:=Tryz.sizeOf9
 v9:=Tryz.zeroValue9
 t20:=Tryz.underlying20
 a20:=Tryz.isAgg20
 z20:=Tryz.sizeOf20
 v20:=Tryz.zeroValue20
 t22:=Tryz.underlying26
 a22:=Tryz.isAgg26
 z22:=Tryz.sizeOf26
 v22:=Tryz.zeroValue26
theorem grow_ok [envI:Env] {X:Ctx} {ρ:Nm} {h:H} {w:World} (hr:HR Tryz.prog X ρ h w) (n:Nat) (h0:0<n) (hn:n<1000000) :
  CallR Tryz.prog X ρ h w (callFunc 116 #[.slice none 0 0,.int .i64 n]) (.ret (.slc h.next 0 0 1 none) (h.newB (.cells [] true))):=by
 have hk:(match Tryz.prog.info? 9 with | some i=>(match i.zero with | some (.string x)=>x.size==0 | _=>false)&&i.size==1&&i.bytes==16 | none=>false)=true:=by kernel_rfl
 cases hi:Tryz.prog.info? 9 with
 | none=>rw [hi] at hk; cases hk
 | some i0 =>
  rw [hi] at hk
  simp only [Bool.and_eq_true,beq_iff_eq] at hk
  obtain ⟨⟨hz,hs⟩,hb⟩:=hk
  cases hz0:i0.zero with
  | none=>rw [hz0] at hz; cases hz
  | some z =>
   refine CallR.of_calls Tryz.func116 rfl (by decide) ?_
   refine (Any8.slices_Grow_grow growL i0 z hi hz0 (by omega) none 0 0 n [] w (by omega) (by omega) (by rw [hb]; omega) (by omega) (by simp) (fun _=>rfl) (fun a e=>by cases e)).mono ?_
   rintro e w' ⟨rfl,rfl⟩
   have h1:=hr.drawn (w.drawn+1)
   have hg:=grownCap_ge w (0+n) 0 9
   have h2:=h1.1.newB (x:=.cells [] true) (o:=.cells (#[]++Builtin.zeroCells z.cells (0+n - 0)++Builtin.zeroCells z.cells (grownCap w (0+n) 0 9 - (0+n))) 9) (fun ρ' L' w' _=>⟨_,_,0,0,rfl,by simp only [VRp],(fun e=>by cases e),.inl (Nat.le_refl _)⟩)
   refine ⟨_,rfl,_,h2.1,h1.2.trans h2.2,?_⟩
   simp only [VR]
   refine ⟨_,_,extend_self _ _ _,rfl,Nat.zero_le _,?_⟩
   have hz1:z.cells.size=1:=by
    cases z<;>simp only [hz0,Bool.false_eq_true] at hz
    rfl
   have hG:=(show ∀ (o:Obj),bsz (newO { w with drawn:=w.drawn+1 } o) w.heap.size=(match o with | .cells c _ _=>c.size | _=>0) from fun o=>by
    unfold bsz
    rw [newO_get,if_pos rfl]
    cases o<;>rfl)
   refine Eq.trans ?_ (hG (.cells (#[]++Builtin.zeroCells z.cells (0+n - 0)++Builtin.zeroCells z.cells (grownCap w (0+n) 0 9 - (0+n))) 9)).symm
   simp only [Array.size_append,size_zeroCells,hz1]
   have h00:(#[]:Array Value).size=0:=rfl
   rw [h00]
   have h25:growN.t 25=9:=rfl
   rw [h25]
   omega
theorem grow0_ok [envI:Env] {X:Ctx} {ρ:Nm} {h:H} {w:World} (hr:HR Tryz.prog X ρ h w):CallR Tryz.prog X ρ h w (callFunc 116 #[.slice none 0 0,.int .i64 (.ofNat 0)]) (.ret .nils h):=by
 refine CallR.of_calls Tryz.func116 rfl (by decide) ?_
 refine (Any8.slices_Grow_room growL none 0 0 0 w (by omega) (by omega) (by omega) (by omega)).mono ?_
 rintro e w' ⟨rfl,rfl⟩
 exact ⟨_,rfl,ρ,hr,Sim.refl ..,by simp only [VR]⟩
theorem byte_lt {c:Int} (hc:(leI 0 c&&ltI c 256)=true):(c.toNat.toUInt8).toNat=c.toNat:=by
 have h0:0≤c∧c<256:=by
  simp only [Bool.and_eq_true] at hc
  refine ⟨?_,?_⟩
  ·cases c<;>simp [leI] at hc ⊢
  ·have:=hc.2
   cases c with
   | ofNat m=>simp [ltI] at this; exact Int.ofNat_lt.2 this
   | negSucc m=>omega
 simp only [Nat.toUInt8,UInt8.toNat_ofNat']
 omega
theorem two_args [_envI:Env] {w:World} {ρ:Nm} {L:Nat→Prop} {s:List Nat} {k:IntKind} {c:Int} {avs:Array Value} (hv:VRs w ρ L [.str s,.int k c] avs.toList):∃ x:ByteArray,bytesL x=s∧avs = #[.string x,.int k c]:=by
 simp only [VRs,VR] at hv
 obtain ⟨u,us,e1,⟨x,rfl,hx⟩,u',us',rfl,rfl,rfl⟩:=hv
 exact ⟨x,hx,by apply Array.ext'; simpa using e1⟩
theorem ixb_ok [envI:Env] {X:Ctx} {ρ:Nm} {h:H} {w:World} (hr:HR Tryz.prog X ρ h w) {s:List Nat} {c:Int} {avs:Array Value} (hc:(leI 0 c&&ltI c 256)=true) (hv:VRs w ρ (Lv ρ h) [.str s,.int .u8 c] avs.toList) :
  CallR Tryz.prog X ρ h w (callFunc 233 avs) (.ret (.int .i64 (ixN 0 s c.toNat)) h):=by
 obtain ⟨x,hx,havs⟩:=two_args hv
 have hrun:=run_callFunc_indexByte (P:=Tryz.prog) (f:=233) Tryz.func233 (by kernel_rfl) (by kernel_rfl) (by kernel_rfl) (by kernel_rfl) avs w
 rw [havs,Lib.run_indexByteString] at hrun
 rw [havs]
 refine ⟨_,w,hrun,.inl ⟨_,rfl,ρ,hr,Sim.refl ..,?_⟩⟩
 have:=ixN_eq x.data.toList c.toNat.toUInt8 0
 rw [byte_lt hc] at this
 simp only [VR]
 rw [← hx]
 simp only [bytesL] at this ⊢
 rw [this]
 by_cases hm:Lib.indexByte x.data.toList c.toNat.toUInt8 = -1
 ·rw [if_pos hm,hm]
 ·rw [if_neg hm]; simp
theorem cnt_ok [envI:Env] {X:Ctx} {ρ:Nm} {h:H} {w:World} (hr:HR Tryz.prog X ρ h w) {s:List Nat} {c:Int} {avs:Array Value} (hc:(leI 0 c&&ltI c 256)=true) (hv:VRs w ρ (Lv ρ h) [.str s,.int .u8 c] avs.toList) :
  CallR Tryz.prog X ρ h w (callFunc 164 avs) (.ret (.int .i64 (.ofNat (cntN s c.toNat))) h):=by
 obtain ⟨x,hx,havs⟩:=two_args hv
 have hrun:=run_callFunc_extern (P:=Tryz.prog) (f:=164) Tryz.func164 (by kernel_rfl) (by kernel_rfl) (by kernel_rfl) (e:=Extern.BytealgCount.count) (by kernel_rfl) avs w
 rw [havs,Lib.run_countString] at hrun
 rw [havs]
 refine ⟨_,w,hrun,.inl ⟨_,rfl,ρ,hr,Sim.refl ..,?_⟩⟩
 have:=cntN_eq x.data.toList c.toNat.toUInt8
 rw [byte_lt hc] at this
 simp only [VR]
 rw [← hx]
 simp only [bytesL] at this ⊢
 rw [this]
 rfl
theorem exts_ok [envI:Env] {X:Ctx} (i:Pth) (args:List AV) (h:H) (v:AV) (h':H) (he:exts i args h=some (v,h')) (ρ:Nm) (w:World) (avs:Array Value) (hr:HR Tryz.prog X ρ h w) (hv:VRs w ρ (Lv ρ h) args avs.toList) :
  CallR Tryz.prog X ρ h w (callFunc i.num avs) (.ret v h'):=by
 unfold exts at he
 cases hi:Pth.beq i f_ixb with
 | true =>
  have hi':i.num=233:=by rw [Pth.beq_iff.1 hi]; kernel_rfl
  rw [hi] at he
  simp only [cond_true] at he
  split at he
  ·rename_i s c
   cases hc:(leI 0 c&&ltI c 256) with
   | false=>rw [hc] at he; cases he
   | true =>
    rw [hc] at he
    cases he
    rw [hi']
    exact ixb_ok hr hc hv
  ·cases he
 | false =>
  rw [hi] at he
  simp only [cond_false] at he
  cases hi:Pth.beq i f_cnt with
  | true =>
   have hi':i.num=164:=by rw [Pth.beq_iff.1 hi]; kernel_rfl
   rw [hi] at he
   simp only [cond_true] at he
   split at he
   ·rename_i s c
    cases hc:(leI 0 c&&ltI c 256) with
    | false=>rw [hc] at he; cases he
    | true =>
     rw [hc] at he
     cases he
     rw [hi']
     exact cnt_ok hr hc hv
   ·cases he
  | false =>
   rw [hi] at he
   simp only [cond_false] at he
   cases hi:Pth.beq i f_grow with
   | true =>
    have hi':i.num=116:=by rw [Pth.beq_iff.1 hi]; kernel_rfl
    rw [hi] at he
    simp only [cond_true] at he
    split at he
    ·rename_i n
     simp only [VRs,VR] at hv
     obtain ⟨u,us,e1,rfl,u',us',rfl,rfl,rfl⟩:=hv
     have havs:avs = #[.slice none 0 0,.int .i64 (.ofNat n)]:=by apply Array.ext'; simpa using e1
     rw [hi',havs]
     cases h0:Nat.beq n 0 with
     | true =>
      rw [h0] at he
      cases he
      have hn:n=0:=Nat.eq_of_beq_eq_true h0
      subst hn
      exact grow0_ok hr
     | false =>
      rw [h0] at he
      simp only [cond_false] at he
      cases h1:Nat.blt n 1000000 with
      | false=>rw [h1] at he; cases he
      | true =>
       rw [h1] at he
       cases he
       exact grow_ok hr n (Nat.pos_of_ne_zero fun e=>by rw [e] at h0; cases h0) (by simpa using h1)
    ·cases he
   | false =>
    rw [hi] at he
    simp only [cond_false] at he
    cases hi:Pth.beq i f_join with
    | true =>
     have hi':i.num=46:=by rw [Pth.beq_iff.1 hi]; kernel_rfl
     rw [hi] at he
     simp only [cond_true] at he
     split at he
     ·rw [hi']
      exact join_ok hr he hv
     ·cases he
    | false =>
     rw [hi] at he
     simp only [cond_false] at he
     cases hi:Pth.beq i f_index with
     | true =>
      have hi':i.num=147:=by rw [Pth.beq_iff.1 hi]; kernel_rfl
      rw [hi] at he
      simp only [cond_true] at he
      split at he
      ·rename_i s sub
       cases h0:Nat.blt s.length 4000000000 with
       | false=>rw [h0] at he; cases he
       | true =>
        rw [h0] at he
        cases he
        rw [hi']
        exact index_ok hr (by simpa using h0) hv
      ·cases he
     | false=>rw [hi] at he; cases he
theorem funcs_ok (i : Pth) (F : AFunc) (h : funcs.get i = some F) : ∃ fn body,Tryz.prog.funcs[i.num]? = some fn ∧ fn.body = some body ∧ (fn.name == "runtime.NumGoroutine") = false ∧ compFunc Tryz.prog fn = some F :=allGood i F h i (by omega)
theorem mixed:Tryz.prog.follows .mixedOrders=true:=by kernel_rfl
theorem ok0 [envI:Env]:XOK Tryz.prog X0:=⟨mixed,funcs_ok,exts_ok,noSums_ok⟩
end Go.Abs.T
end
section
section
namespace Go.Abs
abbrev triv:Env where
 R:=fun i _ _ _ v=>i=topI∧v.oneCell'=true∨i=intI∧∃ m:Int,v=.int .i64 m
 mono:=fun _ _ h=>h
 relive:=fun _ _ _ h=>h
 frzG:=fun _ h=>h
 one:=fun h=>by
  rcases h with h | ⟨_,_,rfl⟩
  ·exact h.2
  ·rfl
 top:=fun h=>.inl ⟨rfl,h⟩
 int:=⟨fun h=>by
  rcases h with ⟨h,_⟩ | ⟨_,h⟩
  ·exact absurd h (by decide)
  ·exact h,fun h=>.inr ⟨rfl,h⟩⟩
theorem triv_one {w:World} {ρ:Nm} {L:Nat→Prop}:∀ {a:AV} {v:Value},a.one=true→@VR triv w ρ L a v→v.oneCell'=true:=by
 intro a v ho h
 cases a<;>simp only [AV.one,Bool.false_eq_true] at ho
 all_goals
  simp only [VR] at h
  first
   | (subst h; rfl)
   | (obtain ⟨_,_,rfl,_,_⟩:=h; rfl)
   | (obtain ⟨_,rfl,_⟩:=h; rfl)
   | (obtain ⟨_,_,rfl⟩:=h; rfl)
   | (obtain ⟨_,rfl⟩:=h; rfl)
   | (obtain ⟨_,_,_,_,_,rfl,_⟩:=h; rfl)
   | (obtain ⟨_,_,_,rfl,_⟩:=h; rfl)
   | (obtain ⟨_,_,rfl,_⟩:=h; rfl)
   | exact Env.one (self:=triv) h
structure Toks where
 val:Nat→AV
 frz:∀ i,frz (val i)=true
 one:∀ i,(val i).one=true
 top:val topI=.sym topI
 int:val intI=.sym intI
abbrev Toks.env (t:Toks):Env where
 R:=fun i w ρ L v=>@VR triv w ρ L (t.val i) v
 mono:=fun hs hb h=>VR.mono0 (envI:=triv) hs hb h
 relive:=fun a b c h=>VR.relive (envI:=triv) a b c h
 frzG:=fun hN h=>VR.frzG (envI:=triv) hN h (t.frz _)
 one:=fun h=>triv_one (t.one _) h
 top:=fun h=>by rw [t.top]; exact .inl ⟨rfl,h⟩
 int:=by
  intro w ρ L v
  rw [t.int]
  exact Env.int (self:=triv)
mutual
def AV.subst (t:Toks):AV→AV
 | .sym i=>t.val i
 | .rptr cs=>.rptr (substs t cs)
 | .rslc n cs=>.rslc n (substs t cs)
 | .rmap ks vs=>.rmap (substs t ks) (substs t vs)
 | .fn f a b=>.fn f (substs t a) (substs t b)
 | .iface ty v=>.iface ty (v.subst t)
 | .agg cs=>.agg (substs t cs)
 | .tup cs=>.tup (substs t cs)
 | v=>v
def substs (t:Toks):List AV→List AV
 | []=>[]
 | v::vs=>v.subst t::substs t vs
end
section
variable {w:World} {ρ:Nm} {L:Nat→Prop} {t:Toks}
mutual
theorem VR_subst:∀ (a:AV) (v:Value),@VR t.env w ρ L a v↔@VR triv w ρ L (a.subst t) v
 | .sym i,v=>by simp only [VR,AV.subst]; exact Iff.rfl
 | .rptr cs,v=>by
  have h:=fun vs=>VRp_subst cs vs
  simp only [VR,AV.subst,h]
 | .rslc n cs,v=>by
  have h:=fun vs=>VRp_subst cs vs
  have h0:cs=[]↔substs t cs=[]:=by cases cs<;>simp [substs]
  simp only [VR,AV.subst,h,h0]
 | .fn f a b,v=>by
  have h1:=fun vs=>VRs_subst a vs
  have h2:=fun vs=>VRs_subst b vs
  simp only [VR,AV.subst,h1,h2]
 | .rmap ks xs,v=>by
  have h1:=fun vs=>VRs_subst ks vs
  have h2:=fun vs=>VRs_subst xs vs
  simp only [VR,AV.subst,h1,h2]
 | .iface ty x,v=>by
  have h:=fun u=>VR_subst x u
  simp only [VR,AV.subst,h]
 | .agg cs,v=>by
  have h:=fun vs=>VRs_subst cs vs
  simp only [VR,AV.subst,h]
 | .tup cs,v=>by
  have h:=fun vs=>VRs_subst cs vs
  simp only [VR,AV.subst,h]
 | .bool b,v=>by simp only [VR,AV.subst]
 | .int k n,v=>by simp only [VR,AV.subst]
 | .str s,v=>by simp only [VR,AV.subst]
 | .nilp,v=>by simp only [VR,AV.subst]
 | .ptr id off,v=>by simp only [VR,AV.subst]
 | .nils,v=>by simp only [VR,AV.subst]
 | .slc id off len sz cap,v=>by simp only [VR,AV.subst]
 | .eslc,v=>by simp only [VR,AV.subst]
 | .nilm,v=>by simp only [VR,AV.subst]
 | .mapv id,v=>by simp only [VR,AV.subst]
 | .nilf,v=>by simp only [VR,AV.subst]
 | .yield id,v=>by simp only [VR,AV.subst]
 | .nili,v=>by simp only [VR,AV.subst]
theorem VRp_subst:∀ (al:List AV) (vs:List Value),@VRp t.env w ρ L al vs↔@VRp triv w ρ L (substs t al) vs
 | [],vs=>by simp only [VRp,substs]
 | a::al,vs=>by
  have h1:=fun u=>VR_subst a u
  have h2:=fun us=>VRp_subst al us
  simp only [VRp,substs,h1,h2]
theorem VRs_subst:∀ (al:List AV) (vs:List Value),@VRs t.env w ρ L al vs↔@VRs triv w ρ L (substs t al) vs
 | [],vs=>by simp only [VRs,substs]
 | a::al,vs=>by
  have h1:=fun u=>VR_subst a u
  have h2:=fun us=>VRs_subst al us
  simp only [VRs,substs,h1,h2]
end
end
mutual
theorem frz_subst (t:Toks):∀ a:AV,frz a=true→frz (a.subst t)=true
 | .sym i,_=>by simp only [AV.subst]; exact t.frz i
 | .rptr cs,h=>by simp only [AV.subst,frz] at h ⊢; exact frzs_subst t cs h
 | .rslc n cs,h=>by simp only [AV.subst,frz] at h ⊢; exact frzs_subst t cs h
 | .rmap ks vs,h=>by simp only [AV.subst,frz,Bool.and_eq_true] at h ⊢; exact ⟨frzs_subst t ks h.1,frzs_subst t vs h.2⟩
 | .fn f a b,h=>by simp only [frz,Bool.false_eq_true] at h
 | .iface ty x,h=>by simp only [AV.subst,frz] at h ⊢; exact frz_subst t x h
 | .agg cs,h=>by simp only [AV.subst,frz] at h ⊢; exact frzs_subst t cs h
 | .tup cs,h=>by simp only [AV.subst,frz] at h ⊢; exact frzs_subst t cs h
 | .bool b,h=>h
 | .int k n,h=>h
 | .str s,h=>h
 | .nilp,h=>h
 | .ptr id off,h=>h
 | .nils,h=>h
 | .slc id off len sz cap,h=>h
 | .eslc,h=>h
 | .nilm,h=>h
 | .mapv id,h=>h
 | .nilf,h=>h
 | .yield id,h=>h
 | .nili,h=>h
theorem frzs_subst (t:Toks):∀ al:List AV,frzs al=true→frzs (substs t al)=true
 | [],_=>rfl
 | a::al,h=>by
  simp only [frzs,substs,Bool.and_eq_true] at h ⊢
  exact ⟨frz_subst t a h.1,frzs_subst t al h.2⟩
end
section
variable {P:Program} {X:Ctx} {ρ:Nm} {h:H} {w:World}
theorem CallR.lift (E0:Env) [envI:Env] {X0:Ctx} {s:Sem Next} {v:AV} {h1:H} (hr:@HR envI P X ρ h w) (hp:plainA v=true) (hR:@CallR E0 P X0 (ρ0 w) h0 w s (.ret v h1)):@CallR envI P X ρ h w s (.ret v h):=by
 have back:∀ {vv w'},@Back E0 P X0 (ρ0 w) h0 w v h1 vv w'→@Back envI P X ρ h w v h vv w':=by
  intro vv w' hb
  obtain ⟨k1,k2,k3,k4,k5⟩:=Back.kept (envI:=E0) hb
  obtain ⟨ρ',_,_,g3⟩:=hb
  have hsim:=kept_sim (ρ:=ρ) (L:=Lv ρ h) k1 k2 k3 k4 k5
  exact ⟨ρ,HR.later (envI:=envI) hr k1 k2 hsim,hsim,VR.plain2 g3 hp⟩
 obtain ⟨nx,w1,hrun,hR⟩:=hR
 refine ⟨nx,w1,hrun,?_⟩
 rcases hR with ⟨vv,e,hb⟩ | ⟨F,hF,hR⟩
 ·exact .inl ⟨vv,e,back hb⟩
 ·refine .inr ⟨F,hF,fun c cs => ?_⟩
  obtain ⟨vv,w',hb,hst⟩:=hR c cs
  exact ⟨vv,w',back hb,hst⟩
theorem tok_sum (t:Toks) {X0:Ctx} (xo:@XOK t.env P X0) (hg:X0.globs=.lf) {n d:Nat} {i:Pth} {args:List AV} {v1:AV} {h1:H} (hc:callN X0 n (.fn i [] []) args h0=.ret v1 h1) (hf:frzs args=true) (hfv:frz (deep d h1 v1)=true)
  (hr:@HR triv P X ρ h w) {avs:Array Value} (hv:@VRs triv w ρ (Lv ρ h) (substs t args) avs.toList):@CallR triv P X ρ h w (callFunc i.num avs) (.ret ((deep d h1 v1).subst t) h):=by
 refine sum_frozen2 (envI:=triv) t.env xo hg hc hfv hr ((VRs_subst args _).2 ?_) (fun w' ρ2 vv _ _ hv=>(VR_subst _ _).1 hv)
 have nolive:∀ b,¬ Lv (ρf ρ) h0 b:=fun b ⟨id,x,e,_⟩=>by cases id<;>cases e
 exact VRs.frzG (envI:=triv) (ρ:=ρ) (L:=Lv ρ h) (ρ2:=ρf ρ) (L2:=Lv (ρf ρ) h0) (fun b _ hb=>⟨nolive b,hb.2⟩) hv (frzs_subst t args hf)
end
end Go.Abs
end
section
namespace Go.Abs
def cmpS (a b:List Nat):Int:=bif bytesLt a b then -1 else bif bytesLt b a then 1 else 0
def cmpL:List (List Nat)→List (List Nat)→Int
 | [],[]=>0
 | [],_::_ => -1
 | _::_,[]=>1
 | a::x,b::y=>if cmpS a b=0 then cmpL x y else cmpS a b
theorem cmpS_cases (a b:List Nat):cmpS a b = -1∨cmpS a b=0∨cmpS a b=1:=by
 unfold cmpS
 cases bytesLt a b<;>cases bytesLt b a<;>simp
theorem cmpL_cases:∀ (x y:List (List Nat)),cmpL x y = -1∨cmpL x y=0∨cmpL x y=1
 | [],[]=>.inr (.inl rfl)
 | [],_::_=>.inl rfl
 | _::_,[]=>.inr (.inr rfl)
 | a::x,b::y=>by
  unfold cmpL
  split
  ·exact cmpL_cases x y
  ·exact cmpS_cases a b
abbrev Known:=List (List Nat×List Nat×Int)
inductive DT where
 | leaf (r:List Nat)
 | node (a b:List Nat) (lt eq gt:DT)
 deriving Inhabited
def DT.eval (σ:Nat→List Nat):DT→List Nat
 | .leaf r=>r
 | .node a b l e g=>if cmpL (a.map σ) (b.map σ) = -1 then l.eval σ else if cmpL (a.map σ) (b.map σ)=0 then e.eval σ else g.eval σ
def DT.all (p:Known→List Nat→Bool):Known→DT→Bool
 | k,.leaf r=>p k r
 | k,.node a b l e g=>l.all p ((a,b,-1)::k)&&(e.all p ((a,b,0)::k)&&g.all p ((a,b,1)::k))
def Known.ok (σ:Nat→List Nat) (k:Known):Prop:=∀ e∈k,cmpL (e.1.map σ) (e.2.1.map σ)=e.2.2
theorem DT.path {σ:Nat→List Nat} {p:Known→List Nat→Bool}:∀ (d:DT) (k:Known),d.all p k=true→Known.ok σ k→∃ k',Known.ok σ k'∧p k' (d.eval σ)=true
 | .leaf r,k,h,hk=>⟨k,hk,h⟩
 | .node a b l e g,k,h,hk=>by
  simp only [DT.all,Bool.and_eq_true] at h
  obtain ⟨h1,h2,h3⟩:=h
  have go:∀ c,cmpL (a.map σ) (b.map σ)=c→Known.ok σ ((a,b,c)::k):=fun c hc x hx=>by
   rcases List.mem_cons.1 hx with rfl | hx
   ·exact hc
   ·exact hk x hx
  simp only [DT.eval]
  rcases cmpL_cases (a.map σ) (b.map σ) with hc | hc | hc
  ·rw [if_pos hc]
   exact DT.path l _ h1 (go _ hc)
  ·rw [if_neg (by omega),if_pos hc]
   exact DT.path e _ h2 (go _ hc)
  ·rw [if_neg (by omega),if_neg (by omega)]
   exact DT.path g _ h3 (go _ hc)
def toks:List AV→Option (List Nat)
 | []=>some []
 | .sym i::vs=>match toks vs with | some l=>some (i::l) | none=>none
 | _::_=>none
def toksOf:AV→Option (List Nat)
 | .rslc n cs=>bif Nat.beq n cs.length then toks cs else none
 | _=>none
def lookO:Known→List Nat→List Nat→Option Int
 | [],_,_=>none
 | e::k,x,y=>bif eqS e.1 x&&eqS e.2.1 y then some e.2.2 else lookO k x y
def strsV (l:List (List Nat)):AV:=.rslc l.length (l.map .str)
def cmpSums (f:Pth) (k:Known) (more:Pth→List AV→H→Option AV) (i:Pth) (args:List AV) (h:H):Option AV :=
 bif Pth.beq i f then (match args with
  | [a,b]=>match toksOf (deep 3 h a),toksOf (deep 3 h b) with
   | some x,some y=>(match lookO k x y with | some c=>some (.int .i64 c) | none=>none)
   | _,_=>none
  | _=>none) else more i args h
def oneSums (f:Pth) (a r:AV) (more:Pth→List AV→H→Option AV) (i:Pth) (args:List AV) (h:H):Option AV :=
 bif Pth.beq i f&&AV.beqs args [a] then some r else more i args h
theorem oneSums_ok {P:Program} {X:Ctx} (t:Toks) {f:Pth} {a r:AV} {more:Pth→List AV→H→Option AV} (hz:frz a=true) (hp:plainA r=true)
  (hc:∀ w,OpnW w→∀ (avs:Array Value),@VRs triv w (ρ0 w) (Lv (ρ0 w) h0) [a.subst t] avs.toList→∃ X0 h1,@CallR triv P X0 (ρ0 w) h0 w (callFunc f.num avs) (.ret r h1))
  (hm:@SumsOK t.env P X more):@SumsOK t.env P X (oneSums f a r more):=by
 intro i args h v hs ρ w avs hr hv
 unfold oneSums at hs
 cases hi:(Pth.beq i f&&AV.beqs args [a]) with
 | false=>rw [hi] at hs; exact hm i args h v hs ρ w avs hr hv
 | true =>
  rw [hi] at hs
  simp only [cond_true,Option.some.injEq] at hs
  subst hs
  rw [Bool.and_eq_true] at hi
  obtain ⟨h1,h2⟩:=hi
  have:=AV.beqs_eq _ _ h2
  subst this
  rw [Pth.beq_iff.1 h1]
  have h1:@VRs t.env w (ρ0 w) (Lv (ρ0 w) h0) [a] avs.toList:=by
   refine VRs.frzG (envI:=t.env) (ρ:=ρ) (L:=Lv ρ h) (fun b hb' hx=>⟨no_live b,hb'⟩) hv ?_
   simp only [frzs,hz,Bool.and_self]
  have h2:=(VRs_subst _ _).1 h1
  simp only [substs] at h2
  obtain ⟨X0,h1',hR⟩:=hc w (HR.opn (envI:=t.env) hr).1 avs h2
  exact CallR.lift (envI:=t.env) triv hr hp hR
end Go.Abs
end
section
namespace Go.Abs
def lookT:List (Pth×List AV×AV)→Pth→List AV→Option AV
 | [],_,_=>none
 | e::t,i,al=>bif Pth.beq e.1 i&&AV.beqs e.2.1 al then some e.2.2 else lookT t i al
def tabSums (tab:List (Pth×List AV×AV)) (more:Pth→List AV→H→Option AV) (i:Pth) (args:List AV) (h:H):Option AV :=
 match lookT tab i args with
 | some v=>some v
 | none=>more i args h
theorem lookT_mem:∀ {t:List (Pth×List AV×AV)} {i:Pth} {al:List AV} {v:AV},lookT t i al=some v→(i,al,v)∈t
 | [],_,_,_,h=>by cases h
 | e :: t,i,al,v,h=>by
  simp only [lookT] at h
  cases hb:(Pth.beq e.1 i&&AV.beqs e.2.1 al) with
  | true =>
   rw [hb] at h
   cases h
   rw [Bool.and_eq_true] at hb
   obtain ⟨h1,h2⟩:=hb
   rw [← Pth.beq_iff.1 h1,← AV.beqs_eq _ _ h2]
   exact List.mem_cons_self
  | false =>
   rw [hb] at h
   exact List.mem_cons_of_mem _ (lookT_mem h)
def RowF (X0:Ctx) (e:Pth×List AV×AV):Prop:=frzs e.2.1=true∧frz e.2.2=true∧∃ n v1 h1,callN X0 n (.fn e.1 [] []) e.2.1 h0=.ret v1 h1∧deep 8 h1 v1=e.2.2
theorem tabSums_ok [envI:Env] {P:Program} {X X0:Ctx} (xo:XOK P X0) (hg:X0.globs=.lf) {tab:List (Pth×List AV×AV)} {more:Pth→List AV→H→Option AV} (ht:∀ e∈tab,RowF X0 e) (hm:SumsOK P X more):SumsOK P X (tabSums tab more):=by
 intro i args h v hs ρ w avs hr hv
 unfold tabSums at hs
 cases hl:lookT tab i args with
 | none=>rw [hl] at hs; exact hm i args h v hs ρ w avs hr hv
 | some u =>
  rw [hl] at hs
  cases hs
  obtain ⟨h1,h2,n,v1,h1',h3,h4⟩:=ht _ (lookT_mem hl)
  simp only at h1 h2 h3 h4
  subst h4
  exact sum_frozen xo hg h3 h1 h2 hr hv
def isD (v:AV):CRes→Bool
 | .ret a h=>AV.beq (deep 8 h a) v
 | _=>false
theorem isD_ret {v:AV} {r:CRes} (h:isD v r=true):∃ v1 h1,r=.ret v1 h1∧deep 8 h1 v1=v:=by
 cases r with
 | ret a h'=>exact ⟨a,h',rfl,AV.beq_eq _ _ h⟩
 | panic _ _=>cases h
 | bad _=>cases h
noncomputable def rowB (X:Ctx) (n:Nat) (e:Pth×List AV×AV):Bool:=F.callC X n (.fn e.1 [] []) e.2.1 h0 (isD e.2.2)&&(frzs e.2.1&&frz e.2.2)
inductive Rows (X:Ctx):List (Pth×List AV×AV)→Prop
 | z:Rows X []
 | s {e:Pth×List AV×AV} {t:List (Pth×List AV×AV)} (h:rowB X 100 e=true) (ht:Rows X t):Rows X (e::t)
theorem rowB_ok {X:Ctx} {n:Nat} {r:Pth×List AV×AV} (h:rowB X n r=true):RowF X r:=by
 simp only [rowB,Bool.and_eq_true] at h
 obtain ⟨h1,h2,h3⟩:=h
 rw [F.callC_eq] at h1
 obtain ⟨v1,h1',e1,e2⟩:=isD_ret h1
 exact ⟨h2,h3,n,v1,h1',e1,e2⟩
theorem Rows.ok {X:Ctx} {tab:List (Pth×List AV×AV)} (h:Rows X tab):∀ e∈tab,RowF X e:=by
 induction h with
 | z=>exact fun _ he=>absurd he List.not_mem_nil
 | s h _ ih =>
  intro e he
  rcases List.mem_cons.1 he with rfl | he
  ·exact rowB_ok h
  ·exact ih e he
end Go.Abs
end
end
end
