/- A part of the proof that LibSwaps answers true at every input: AbsChain2, AbsChain3, AbsChain4, AbsChain5, AbsChain6, AbsChain7, AbsChain8, AbsStep, AbsStep2. -/
import Derived.Test.YtaendaokfclnoaaGreatDoorC08
import Derived.Laws.RangeString
noncomputable section
section
namespace Go.Abs
variable [envI:Env]
section
variable {P:Program} {X:Ctx} {ρ:Nm} {h:H} {w:World} {L:Nat→Prop}
omit envI in
theorem qI (a:Addr) (w:World):(loadCells a 0).run P w=.ok #[] w:=by simp [loadCells,loadCellsFrom]
theorem xS0 {x:AV} {xv:Value} {n:Nat} (hv:VR w ρ L x xv) (e:xD9 x=some n) (w':World):(Builtin.lenOf xv).run P w'=.ok n w':=by
 cases x<;>simp only [xD9,reduceCtorEq,Option.some.injEq] at e<;>subst e<;>simp only [VR] at hv
 case str s =>
  obtain ⟨b,rfl,rfl⟩:=hv
  have:(xP b).length=b.size:=by simp only [xP,List.length_map]; rfl
  simp [Builtin.lenOf,this]
 case nils=>subst hv; simp [Builtin.lenOf]
 case slc id off len sz cap=>obtain ⟨b,c,_,rfl,_⟩:=hv; simp [Builtin.lenOf]
 case rslc len cs=>obtain ⟨a,c,rfl,_⟩:=hv; simp [Builtin.lenOf]
 case eslc=>obtain ⟨a,rfl⟩:=hv; simp [Builtin.lenOf]
theorem first_ok (hr:HR P X ρ h w) {sz n:Nat} {x:AV} {xv:Value} {new:List AV} (hx:VR w ρ (Lv ρ h) x xv) (e:bN h sz n x=some new) :
  ∃ us:Array Value,(∀ w',w'.heap=w.heap→(Builtin.firstCells sz n xv).run P w'=.ok us w')∧VRs w ρ (Lv ρ h) new us.toList∧new.length=n*sz:=by
 cases x<;>simp only [bN,reduceCtorEq] at e<;>simp only [VR] at hx
 case nils =>
  subst hx
  cases hb:Nat.beq n 0 with
  | false=>rw [hb] at e; cases e
  | true =>
   rw [hb] at e; simp only [cond_true,Option.some.injEq] at e; subst e
   have:=Nat.eq_of_beq_eq_true hb; subst this
   exact ⟨#[],fun w' _=>by simp [Builtin.firstCells],by simp [VRs],by simp⟩
 case eslc =>
  obtain ⟨a,rfl⟩:=hx
  cases hb:Nat.beq n 0 with
  | false=>rw [hb] at e; cases e
  | true =>
   rw [hb] at e; simp only [cond_true,Option.some.injEq] at e; subst e
   have:=Nat.eq_of_beq_eq_true hb; subst this
   refine ⟨#[],fun w' _ => ?_,by simp [VRs],by simp⟩
   cases a<;>simp [Builtin.firstCells,qI]
 case slc id off len sz' cap =>
  obtain ⟨b,c,h1,rfl,_⟩:=hx
  cases hb:(Nat.beq sz sz'&&Nat.ble n len) with
  | false=>rw [hb] at e; cases e
  | true =>
   rw [hb] at e; simp only [cond_true] at e
   cases hc:h.cellsAt id with
   | none=>rw [hc] at e; cases e
   | some cs =>
    rw [hc] at e
    obtain ⟨cc,el,fz,h2,h3⟩:=hr.cellsAt hc h1
    obtain ⟨g1,g2,g3⟩:=bA e h3
    refine ⟨((cc.toList.drop off).take (n*sz)).toArray,fun w' hw => ?_,by simpa using g3,g1⟩
    rcases g2 with g2 | g2
    ·rw [g2]; simp [Builtin.firstCells,g2,qI]
    ·simp only [Builtin.firstCells]
     rw [jR (w:=w') (hw▸h2) g2]
 case rslc len cs =>
  obtain ⟨a,c,rfl,_,h2⟩:=hx
  cases hb:Nat.ble n len with
  | false=>rw [hb] at e; cases e
  | true =>
   rw [hb] at e; simp only [cond_true] at e
   rcases h2 with ⟨rfl,_⟩ | ⟨b,off,cc,el,fz,rfl,h3,h4,h5⟩
   ·rcases xBd e with ⟨e1,e2,e3⟩ | ⟨e1,e2⟩
    ·have hz:n*sz=0:=by simp only [List.length_nil] at e3; omega
     simp at e1
     subst e1
     refine ⟨#[],fun w' _ => ?_,by simp [VRs],by simpa using e2⟩
     cases a<;>simp [Builtin.firstCells,hz,qI]
    ·subst e1
     refine ⟨#[],fun w' _ => ?_,by simp [VRs],by simp [e2]⟩
     cases a<;>simp [Builtin.firstCells,e2,qI]
   ·obtain ⟨g1,g2,g3⟩:=bA e h5
    refine ⟨((cc.toList.drop off).take (n*sz)).toArray,fun w' hw => ?_,by simpa using g3,g1⟩
    rcases g2 with g2 | g2
    ·simp [Builtin.firstCells,g2,qI]
    ·simp only [Builtin.firstCells]
     by_cases hn:n*sz=0
     ·simp [hn,qI]
     ·rw [jR (w:=w') (hw▸h4) (by simp at g2 ⊢; omega)]
 case str s =>
  obtain ⟨b,rfl,rfl⟩:=hx
  cases hb:(Nat.beq sz 1&&Nat.ble n (xP b).length) with
  | false=>rw [hb] at e; cases e
  | true =>
   rw [hb] at e; simp only [cond_true,Option.some.injEq] at e; subst e
   simp only [Bool.and_eq_true,Nat.beq_eq,Nat.ble_eq] at hb
   refine ⟨(b.extract 0 n).data.map fun b=>Value.int .u8 b.toNat,fun w' _=>by simp [Builtin.firstCells],?_,?_⟩
   ·have:=dN (w:=w) (ρ:=ρ) (L:=Lv ρ h) (b.extract 0 n)
    have e2:xP (b.extract 0 n)=(xP b).take n:=by
     simp only [xP,ByteArray.data_extract,Array.toList_extract,List.extract_eq_take_drop,Nat.sub_zero,List.drop_zero,List.map_take]
    rw [e2] at this
    exact this
   ·rw [hb.1]; simp; omega
end
end Go.Abs
end
section
namespace Go.Abs
variable [envI:Env]
section
variable {P:Program} {X:Ctx} {ρ:Nm} {h:H} {w:World} {L:Nat→Prop}
omit envI in
theorem xPc {ts:Array TypeId} (hz:xBe P ts=some false):ts[1]?=none∨∃ xt d,ts[1]?=some xt∧P.underlying xt=some d∧∀ k,d≠.int k:=by
 unfold xBe at hz
 cases h1:ts[1]? with
 | none=>exact .inl rfl
 | some t =>
  rw [h1] at hz
  simp only at hz
  cases h2:P.underlying t with
  | none=>rw [h2] at hz; cases hz
  | some d =>
   rw [h2] at hz
   refine .inr ⟨t,d,rfl,h2,fun k e => ?_⟩
   subst e; simp at hz
omit envI in
theorem xJg {ts:Array TypeId} {ty t e:TypeId} {d:TypeDesc} {x s:Value} (h0:ts[0]?=some t) (ht:P.underlying t=some (.slice e))
  (hz:xBe P ts=some false) (he:P.underlying e=some d) :
  (Builtin.append_ ts ty #[s,x]).run P w=(Builtin.append_ #[t] ty #[s,x]).run P w:=by
 have hsz:=yY he w
 have e0:(#[t]:Array TypeId)[0]?=some t:=rfl
 have e1:(#[t]:Array TypeId)[1]?=none:=rfl
 rcases xPc hz with h1 | ⟨xt,dx,h1,h2,h3⟩
 ·simp only [Builtin.append_,h0,h1,e0,e1]
 ·simp only [Builtin.append_,h0,h1,e0,e1]
  cases s
  case slice base sLen sCap =>
   simp only [show (#[Value.slice base sLen sCap,x]:Array Value)[0]?=some (.slice base sLen sCap) from rfl,show (#[Value.slice base sLen sCap,x]:Array Value)[1]?=some x from rfl]
   simp only [Sem.run_bind,run_underlying ht w,Result.andThen_ok,hsz]
   simp only [run_underlying h2 w,Result.andThen_ok,Sem.run_pure]
  all_goals rfl
omit envI in
theorem xAa {ts:Array TypeId} {ty t e:TypeId} {d:TypeDesc} {x:Value} {base:Option Addr} {sLen sCap n:Nat} {us:Array Value} {w':World} (h0:ts[0]?=some t) (ht:P.underlying t=some (.slice e))
  (hz:xBe P ts=some false) (he:P.underlying e=some d) (hl:(Builtin.lenOf x).run P w=.ok n w) (hroom:sLen+n≤sCap) (hf:(Builtin.firstCells (P.cellsOf e) n x).run P w=.ok us w)
  (hs:(match base with | some a=>storeCells (a.add (sLen*P.cellsOf e)) us.toList | none=>pure ()).run P w=.ok () w') :
  (Builtin.append_ ts ty #[.slice base sLen sCap,x]).run P w=.ok (.slice base (sLen+n) sCap) w':=by
 have hsz:=yY he w
 rw [xJg h0 ht hz he]
 cases base with
 | none=>simp at hs; subst hs; simp [Builtin.append_,run_underlying ht,hsz,hl,hroom,hf]
 | some a=>simp at hs; simp [Builtin.append_,run_underlying ht,hsz,hl,hroom,hf,hs]
omit envI in
theorem xO5 {ts:Array TypeId} {ty t e:TypeId} {i:TypeInfo} {d:TypeDesc} {x zv:Value} {base:Option Addr} {sLen sCap n:Nat} {olds us:Array Value} (h0:ts[0]?=some t) (ht:P.underlying t=some (.slice e))
  (hz:xBe P ts=some false) (he:P.underlying e=some d) (hi:P.info? e=some i) (hl:(Builtin.lenOf x).run P w=.ok n w) (hroom:sCap<sLen+n)
  (hb1:sLen+n≤9223372036854775807) (hb2:(sLen+n)*i.bytes≤140737488355328) (hzv:∀ w,(zeroValue e).run P w=.ok zv w)
  (ho:∀ w',w'.heap=w.heap→(Builtin.firstCells (P.cellsOf e) sLen (.slice base sLen sCap)).run P w'=.ok olds w')
  (hf:∀ w',w'.heap=w.heap→(Builtin.firstCells (P.cellsOf e) n x).run P w'=.ok us w') :
  (Builtin.append_ ts ty #[.slice base sLen sCap,x]).run P w=.ok (.slice (some ⟨w.heap.size,0,none⟩) (sLen+n) (grownCap w (sLen+n) sCap e))
   (nK { w with drawn:=w.drawn+1 } (.cells (olds++us++Builtin.zeroCells zv.cells (grownCap w (sLen+n) sCap e - (sLen+n))) e)):=by
 have hsz:=yY he w
 have hty:=dH hi
 have h63:¬ (9223372036854775807<(sLen:Int)+(n:Int)):=by omega
 have h48:¬ (281474976710656<Builtin.nextslicecap (sLen+n) sCap*i.bytes):=by have:=growslice_fits hroom hb2; omega
 have ho':=ho w.drew rfl
 have hf':=hf w.drew rfl
 have hnr:¬ sLen+n≤sCap:=by omega
 rw [xJg h0 ht hz he]
 simp [Builtin.append_,run_underlying ht,hsz,hl,hnr,hty,h63,h48,Question.forced,ho',hf',hzv,newRow,grownCap]
 rfl
end
end Go.Abs
end
section
namespace Go.Abs
variable [envI:Env]
section
variable {P:Program} {X:Ctx} {ρ:Nm} {h:H} {w:World} {L:Nat→Prop}
theorem zY0 (hr:HR P X ρ h w) {cs:List AV} {c zs:Array Value} {el:TypeId} (hc:VRs w ρ (Lv ρ h) cs c.toList) {need cap sz:Nat} (hl:cs.length=need*sz) (hz:zs.size=(cap - need)*sz) (hcap:need≤cap) (k:Nat) :
  HR P X (extend ρ h.next w.heap.size) (h.newB (.cells cs true)) (nK { w with drawn:=k } (.cells (c++zs) el)) ∧
  Sim ρ (Lv ρ h) w (extend ρ h.next w.heap.size) (Lv (extend ρ h.next w.heap.size) (h.newB (.cells cs true))) (nK { w with drawn:=k } (.cells (c++zs) el)) ∧
  VR (nK { w with drawn:=k } (.cells (c++zs) el)) (extend ρ h.next w.heap.size) (Lv (extend ρ h.next w.heap.size) (h.newB (.cells cs true))) (.slc h.next 0 need sz none) (.slice (some ⟨w.heap.size,0,none⟩) need cap):=by
 obtain ⟨hr1,hs1⟩:=hr.drawn k
 obtain ⟨hr2,hs2⟩:=hr1.newB (x:=.cells cs true) (o:=.cells (c++zs) el) (fun ρ' L' w' hs=>by
  refine ⟨_,_,_,_,rfl,?_,(fun h=>by cases h),.inl (Nat.le_refl _)⟩
  rw [Array.toList_append]
  exact ((hc.mono hs1 hr.bound).mono hs hr1.bound).toP_append _)
 refine ⟨hr2,hs1.trans hs2,?_⟩
 simp only [VR]
 refine ⟨_,cap,zW _ _ _,rfl,hcap,?_⟩
 have hcl:=hc.length
 simp only [Array.length_toList] at hcl
 unfold bsz
 rw [jJ]
 simp only [if_pos trivial,Array.size_append,hcl,hl,hz,Nat.zero_add]
 rw [← Nat.add_mul]
 congr 1
 omega
theorem HR.congr {ρ:Nm} (hr:HR P X ρ h w) {t':Tr AB} (he:∀ i,t'.get i=h.t.get i):HR P X ρ { h with t:=t' } w∧Lv ρ { h with t:=t' }=Lv ρ h:=by
 have hL:Lv ρ { h with t:=t' }=Lv ρ h:=by
  funext b
  simp only [Lv,he]
 refine ⟨⟨?_,?_,?_,hr.fresh,hr.bound,?_,hr.low,hr.resv,fun b hb=>hL▸hr.disj b hb⟩,hL⟩
 ·intro i x e; rw [hL]; exact hr.live i x ((he i).symm.trans e)
 ·intro i j x y b e1 e2; exact hr.inj i j x y b ((he i).symm.trans e1) ((he j).symm.trans e2)
 ·intro i cs e1 e2; rw [hL]; exact hr.ro i cs ((he i).symm.trans e1) e2
 ·intro g cs e; rw [hL]; exact hr.globs g cs e
theorem zBh (hr:HR P X ρ h w) {ts:Array TypeId} {ty t el:TypeId} {an:Option Nat} {z:List AV} (h0:ts[0]?=some t) (ht:P.underlying t=some (.slice el)) (hz:xBe P ts=some false)
  (hn:mX P el=some an) (hzc:wM P el=some z) (hzl:z.length=P.cellsOf el) {s x r:AV} {sv xv:Value} {h':H} (hs:VR w ρ (Lv ρ h) s sv) (hx:VR w ρ (Lv ρ h) x xv)
  (e:jD h (P.cellsOf el) (P.bytesOf el) s x=some (r,h')) :
  ∃ v w' ρ',(Builtin.append_ ts ty #[sv,xv]).run P w=.ok v w'∧HR P X ρ' h' w'∧Sim ρ (Lv ρ h) w ρ' (Lv ρ' h') w'∧VR w' ρ' (Lv ρ' h') r v:=by
 obtain ⟨d,hd,_⟩:=kS hn
 obtain ⟨i,hi⟩:=info_of_underlying hd
 have hby:P.bytesOf el=i.bytes:=by simp [Program.bytesOf,hi]
 simp only [wM,Option.map_eq_some_iff] at hzc
 obtain ⟨za,hzc,rfl⟩:=hzc
 obtain ⟨zv,hz1,hz2⟩:=pN hzc
 have hzs:zv.cells.size=P.cellsOf el:=by
  have:=(hz2 (w:=w) (ρ:=ρ) (L:=Lv ρ h)).cells.length
  simp only [Array.length_toList] at this; omega
 unfold jD at e
 cases hl:xD9 x with
 | none=>rw [hl] at e; cases e
 | some n =>
 rw [hl] at e
 simp only at e
 cases hf:bN h (P.cellsOf el) n x with
 | none=>rw [hf] at e; cases e
 | some new =>
 rw [hf] at e
 simp only at e
 have hlen:=xS0 (P:=P) hx hl w
 obtain ⟨us,hus,hnew,hnl⟩:=first_ok (P:=P) hr hx hf
 have hbig:xQ=35184372088832:=rfl
 have none_ok:∀ {base:Option Addr} {sLen sCap:Nat},sv=.slice base sLen sCap→sLen≤sCap→n=0→(Builtin.append_ ts ty #[sv,xv]).run P w=.ok sv w:=by
  intro base sLen sCap e1 e2 e3
  subst e1; subst e3
  have h3:us.toList=[]:=by
   have:=hnew.length; rw [hnl] at this; exact List.eq_nil_of_length_eq_zero (by simpa using this)
  refine xAa h0 ht hz hd hlen (by simpa using e2) (hus w rfl) ?_
  cases base with
  | none=>simp
  | some a=>rw [h3]; simp [storeCells]
 have grow:∀ {base:Option Addr} {sLen sCap:Nat} {old:List AV} {olds:Array Value} {h1:H},HR P X ρ h1 w→Sim ρ (Lv ρ h) w ρ (Lv ρ h1) w→sv=.slice base sLen sCap→sCap<sLen+n →
   (Nat.ble xQ ((sLen+n)*P.bytesOf el)||Nat.ble xQ (sLen+n))=false→VRs w ρ (Lv ρ h) old olds.toList→old.length=sLen*P.cellsOf el →
   (∀ w',w'.heap=w.heap→(Builtin.firstCells (P.cellsOf el) sLen (.slice base sLen sCap)).run P w'=.ok olds w') →
   ∃ v w' ρ',(Builtin.append_ ts ty #[sv,xv]).run P w=.ok v w'∧HR P X ρ' (h1.newB (.cells (old++new) true)) w'∧Sim ρ (Lv ρ h) w ρ' (Lv ρ' (h1.newB (.cells (old++new) true))) w' ∧
    VR w' ρ' (Lv ρ' (h1.newB (.cells (old++new) true))) (.slc h1.next 0 (sLen+n) (P.cellsOf el) none) v:=by
  intro base sLen sCap old olds h1 hr1 hs1 e1 e2 e3 ho hol hor
  subst e1
  simp only [Bool.or_eq_false_iff] at e3
  have f1:¬ xQ≤(sLen+n)*P.bytesOf el:=fun hh=>by rw [Nat.ble_eq_true_of_le hh] at e3; cases e3.1
  have f2:¬ xQ≤sLen+n:=fun hh=>by rw [Nat.ble_eq_true_of_le hh] at e3; cases e3.2
  have hge:=grownCap_ge w (sLen+n) sCap el
  have hrun:=xO5 (ty:=ty) h0 ht hz hd hi hlen e2 (by omega) (by rw [hby] at f1; omega) hz1 hor hus
  obtain ⟨g1,g2,g3⟩:=zY0 (el:=el) hr1 (cs:=old++new) (c:=olds++us) (zs:=Builtin.zeroCells zv.cells (grownCap w (sLen+n) sCap el - (sLen+n))) (need:=sLen+n)
   (cap:=grownCap w (sLen+n) sCap el) (sz:=P.cellsOf el) (by
    rw [Array.toList_append]; exact (ho.mono hs1 hr.bound).append (hnew.mono hs1 hr.bound)) (by rw [List.length_append,hol,hnl,Nat.add_mul]) (by rw [size_zeroCells,hzs]) hge (w.drawn+1)
  exact ⟨_,_,_,hrun,g1,hs1.trans g2,g3⟩
 cases s<;>simp only [reduceCtorEq] at e
 case nils =>
  simp only [VR] at hs
  cases hb:Nat.beq n 0 with
  | true =>
   rw [hb] at e; simp only [cond_true,Option.some.injEq,Prod.mk.injEq] at e
   obtain ⟨rfl,rfl⟩:=e
   exact ⟨_,w,ρ,none_ok hs (Nat.le_refl _) (Nat.eq_of_beq_eq_true hb),hr,Sim.refl ..,by simp only [VR]; exact hs⟩
  | false =>
   rw [hb] at e; simp only [cond_false] at e
   cases hb2:(Nat.ble xQ (n*P.bytesOf el)||Nat.ble xQ n) with
   | true=>rw [hb2] at e; cases e
   | false =>
    rw [hb2] at e; simp only [cond_false,Option.some.injEq,Prod.mk.injEq] at e
    obtain ⟨rfl,rfl⟩:=e
    have hn0:n≠0:=fun h=>by subst h; cases hb
    have:=grow (old:=[]) (olds := #[]) hr (Sim.refl ..) hs (by omega) (by simpa using hb2) (by simp [VRs]) (by simp) (fun w' _=>by simp [Builtin.firstCells])
    simpa using this
 case eslc =>
  simp only [VR] at hs
  obtain ⟨a,hs⟩:=hs
  cases hb:Nat.beq n 0 with
  | true =>
   rw [hb] at e; simp only [cond_true,Option.some.injEq,Prod.mk.injEq] at e
   obtain ⟨rfl,rfl⟩:=e
   exact ⟨_,w,ρ,none_ok hs (Nat.le_refl _) (Nat.eq_of_beq_eq_true hb),hr,Sim.refl ..,by simp only [VR]; exact ⟨a,hs⟩⟩
  | false =>
   rw [hb] at e; simp only [cond_false] at e
   cases hb2:(Nat.ble xQ (n*P.bytesOf el)||Nat.ble xQ n) with
   | true=>rw [hb2] at e; cases e
   | false =>
    rw [hb2] at e; simp only [cond_false,Option.some.injEq,Prod.mk.injEq] at e
    obtain ⟨rfl,rfl⟩:=e
    have hn0:n≠0:=fun h=>by subst h; cases hb
    have:=grow (old:=[]) (olds := #[]) hr (Sim.refl ..) hs (by omega) (by simpa using hb2) (by simp [VRs]) (by simp) (fun w' _=>by cases a<;>simp [Builtin.firstCells,qI])
    simpa using this
 case rslc l cs =>
  cases hb:Nat.beq n 0 with
  | false=>rw [hb] at e; cases e
  | true =>
   rw [hb] at e; simp only [cond_true,Option.some.injEq,Prod.mk.injEq] at e
   obtain ⟨rfl,rfl⟩:=e
   have hs':=hs
   simp only [VR] at hs'
   obtain ⟨a,c,e1,e2,_⟩:=hs'
   exact ⟨_,w,ρ,none_ok e1 e2 (Nat.eq_of_beq_eq_true hb),hr,Sim.refl ..,hs⟩
 case slc id off len sz' cap =>
  have hs':=hs
  simp only [VR] at hs'
  obtain ⟨b,c,hb0,e1,e2,hcap⟩:=hs'
  cases hbs:Nat.beq (P.cellsOf el) sz' with
  | false=>rw [hbs] at e; cases e
  | true =>
  have hsz:P.cellsOf el=sz':=Nat.eq_of_beq_eq_true hbs
  rw [hbs] at e; simp only [cond_true] at e
  cases hb:Nat.beq n 0 with
  | true =>
   rw [hb] at e; simp only [cond_true,Option.some.injEq,Prod.mk.injEq] at e
   obtain ⟨rfl,rfl⟩:=e
   exact ⟨_,w,ρ,none_ok e1 e2 (Nat.eq_of_beq_eq_true hb),hr,Sim.refl ..,hs⟩
  | false =>
  rw [hb] at e; simp only [cond_false] at e
  cases hb2:(Nat.ble xQ ((len+n)*P.bytesOf el)||Nat.ble xQ (len+n)) with
  | true=>rw [hb2] at e; cases e
  | false =>
  rw [hb2] at e; simp only [cond_false] at e
  cases cap with
  | some k =>
   simp only at e hcap
   subst hcap
   cases hb3:Nat.ble (len+n) c with
   | true =>
    rw [hb3] at e; simp only [cond_true] at e
    cases hg:h.t.get id with
    | none=>rw [hg] at e; cases e
    | some xb =>
     rw [hg] at e
     cases xb<;>simp only [reduceCtorEq] at e
     rename_i cs sp
     cases ho:mF new with
     | false=>rw [ho] at e; cases e
     | true =>
      rw [ho] at e; simp only [cond_true] at e
      cases hst:setAt cs (off+len*P.cellsOf el) new with
      | none=>rw [hst] at e; cases e
      | some cs' =>
       rw [hst] at e
       simp only [Option.some.injEq,Prod.mk.injEq] at e
       obtain ⟨rfl,rfl⟩:=e
       obtain ⟨w',g1,g2,g3⟩:=hr.write (P:=P) hg hb0 hst hnew ho
       refine ⟨.slice (some ⟨b,off,none⟩) (len+n) c,w',ρ,?_,g2,g3,?_⟩
       ·rw [e1]
        exact xAa h0 ht hz hd hlen (Nat.le_of_ble_eq_true hb3) (hus w rfl) (by simp only [add_plain]; exact g1)
       ·simp only [VR]
        exact ⟨b,c,hb0,rfl,Nat.le_of_ble_eq_true hb3,rfl⟩
   | false =>
    rw [hb3] at e; simp only [cond_false] at e
    have hlt:c<len+n:=by
     rcases Nat.lt_or_ge c (len+n) with h5 | h5
     ·exact h5
     ·rw [Nat.ble_eq_true_of_le h5] at hb3; cases hb3
    cases hc:h.cellsAt id with
    | none=>rw [hc] at e; cases e
    | some cs =>
     rw [hc] at e
     simp only at e
     cases htk:takeD cs off (len*P.cellsOf el) with
     | none=>rw [htk] at e; cases e
     | some old =>
      rw [htk] at e
      simp only [Option.some.injEq,Prod.mk.injEq] at e
      obtain ⟨rfl,rfl⟩:=e
      obtain ⟨cc,el',fz,k2,k3⟩:=hr.cellsAt hc hb0
      obtain ⟨g1,g2,g3⟩:=bA htk k3
      refine grow hr (Sim.refl ..) e1 hlt hb2 (olds:=((cc.toList.drop off).take (len*P.cellsOf el)).toArray) (by simpa using g3) g1 (fun w' hw => ?_)
      rcases g2 with g2 | g2
      ·simp [Builtin.firstCells,g2,qI]
      ·simp only [Builtin.firstCells]
       rw [jR (w:=w') (hw▸k2) g2]
  | none =>
   simp only at e hcap
   cases hg:h.t.get id with
   | none=>rw [hg] at e; cases e
   | some xb =>
    rw [hg] at e
    cases xb<;>simp only [reduceCtorEq] at e
    rename_i cs sp
    cases hcnd:(sp&&mF new&&Nat.beq off 0&&Nat.beq cs.length (len*P.cellsOf el)&&(h.ro.get id).isNone) with
    | false=>rw [hcnd] at e; cases e
    | true =>
     rw [hcnd] at e
     simp only [cond_true,Option.some.injEq,Prod.mk.injEq] at e
     obtain ⟨rfl,rfl⟩:=e
     simp only [Bool.and_eq_true,Nat.beq_eq,Option.isNone_iff_eq_none] at hcnd
     obtain ⟨⟨⟨⟨rfl,hone⟩,rfl⟩,hcl⟩,hro⟩:=hcnd
     obtain ⟨b',o,hb',hob,hxb⟩:=hr.live id _ hg
     cases hb0.symm.trans hb'
     obtain ⟨cc,el',lo,hi',rfl,hcc,_,hfz⟩:=hxb
     rcases Nat.lt_or_ge c (len+n) with hlt | hge
     ·
      obtain ⟨d1,d2⟩:=hr.del id hro
      have:=hcc.length
      have hk:=hcc.toS
      refine grow d1 d2 e1 hlt hb2 (old:=cs) (olds:=(cc.toList.take (len*P.cellsOf el)).toArray) (by rw [hcl] at hk; simpa using hk) hcl (fun w' hw => ?_)
      simp only [Builtin.firstCells]
      rw [jR (w:=w') (hw▸hob) (by omega)]
      simp
     ·
      have hcs:cc.size=c*P.cellsOf el:=by
       have hbz:bsz w b=cc.size:=by unfold bsz; rw [hob]
       rw [hbz] at hcap; rw [hsz]; omega
      have hul:us.toList.length=n*P.cellsOf el:=by rw [hnew.length,hnl]
      have hfit:(len+n)*P.cellsOf el≤c*P.cellsOf el:=Nat.mul_le_mul_right _ hge
      rw [Nat.add_mul] at hfit
      have hk:=hcc.toS
      rw [hcl] at hk
      obtain ⟨c',k1,k2⟩:=dM (P:=P) (off:=len*P.cellsOf el) us.toList 0 cc w hob hfz (by omega) (xC7 hnew hone)
      simp only [Nat.add_zero] at k1
      have hs':c'.size=cc.size:=by
       have:=congrArg List.length k1
       simp only [Array.length_toList,List.length_append,List.length_take,List.length_drop] at this hul
       omega
      have hsz2:bsz (gV w b (.cells c' el' (lo,hi'))) b=bsz w b:=by
       unfold bsz
       rw [wT _ _ _ _ (lt_of_heap hob),if_pos rfl,hob]
       simpa using hs'
      obtain ⟨m1,m2⟩:=hr.set hg hb0 hob (x':=.cells (cs++new) true) (o':=.cells c' el' (lo,hi')) hsz2 (fun ρ' L' w' hsim=>by
       refine ⟨c',el',lo,hi',rfl,?_,(fun h=>by cases h),by rw [hs']; exact hfz⟩
       rw [k1]
       exact ((hk.append hnew).mono hsim hr.bound).toP_append _)
      have hg':(h.setB id (.cells (cs++new) true)).t.get id=some (.cells (cs++new) true):=by
       show (h.t.put id _).get id=_
       rw [Tr.get_put,if_pos rfl]
      obtain ⟨n1,n2⟩:=m1.rename hg' hb0 hro
      obtain ⟨q1,q2⟩:=n1.congr (t':=(h.t.del id).put h.next (.cells (cs++new) true)) (fun j=>by
       show ((h.t.del id).put h.next _).get j=(((h.t.put id _).del id).put h.next _).get j
       simp only [Tr.get_put,Tr.get_del]
       by_cases hj:j=id<;>simp [hj])
      refine ⟨.slice (some ⟨b,0,none⟩) (len+n) c,_,extend ρ h.next b,?_,q1,?_,?_⟩
      ·rw [e1]
       exact xAa h0 ht hz hd hlen hge (hus w rfl) (by simp only [add_plain,Nat.zero_add]; exact k2)
      ·have:=m2.trans n2
       rw [← q2] at this
       exact this
      ·simp only [VR]
       refine ⟨b,c,zW _ _ _,rfl,hge,?_⟩
       rw [hsz2]; rw [← hsz] at hcap; exact hcap
end
end Go.Abs
end
section
namespace Go.Abs
variable [envI:Env]
section
variable {P:Program} {X:Ctx} {ρ:Nm} {h:H} {w:World} {L:Nat→Prop}
theorem zXl (hr:HR P X ρ h w) {ts:Array TypeId} {ty t el:TypeId} {d:TypeDesc} (h0:ts[0]?=some t) (ht:P.underlying t=some (.slice el))
  (hd:P.underlying el=some d) {s x r:AV} {sv xv:Value} {h':H} (hs:VR w ρ (Lv ρ h) s sv) (hx:VR w ρ (Lv ρ h) x xv)
  (e:xZb h (P.cellsOf el) s x=some (r,h')) :
  ∃ v w',(Builtin.copy_ ts ty #[sv,xv]).run P w=.ok v w'∧HR P X ρ h' w'∧Sim ρ (Lv ρ h) w ρ (Lv ρ h') w'∧VR w' ρ (Lv ρ h') r v:=by
 have hsz:=yY hd w
 unfold xZb at e
 cases hl:xD9 x with
 | none=>rw [hl] at e; cases hl':xD9 s<;>rw [hl'] at e<;>cases e
 | some sl =>
 cases hl':xD9 s with
 | none=>rw [hl'] at e; cases e
 | some dl =>
 rw [hl,hl'] at e
 simp only at e
 cases hf:bN h (P.cellsOf el) (Nat.min sl dl) x with
 | none=>rw [hf] at e; cases e
 | some new =>
 rw [hf] at e
 simp only at e
 have hlen:=xS0 (P:=P) hx hl w
 obtain ⟨us,hus,hnew,hnl⟩:=first_ok (P:=P) hr hx hf
 have hus':=hus w rfl
 have hds:∀ {base:Option Addr} {a b:Nat},sv=.slice base a b→a=dl:=by
  intro base a b e1
  have:=xS0 (P:=P) hs hl' w
  rw [e1] at this
  simpa [Builtin.lenOf] using this
 have run:∀ {base:Option Addr} {a b:Nat} {w':World},sv=.slice base a b→(match base with | some a=>storeCells a us.toList | none=>pure ()).run P w=.ok () w' →
   (Builtin.copy_ ts ty #[sv,xv]).run P w=.ok (goInt (Nat.min sl dl)) w':=by
  intro base a b w' e1 e2
  have e3:=hds e1
  subst e3; subst e1
  cases base with
  | none=>simp at e2; subst e2; simp [Builtin.copy_,h0,run_underlying ht,hlen,hsz,hus']
  | some ad=>simp at e2; simp [Builtin.copy_,h0,run_underlying ht,hlen,hsz,hus',e2]
 have nothing:new=[]→us.toList=[]:=by
  intro e1; subst e1; simpa [VRs] using hnew
 cases s<;>simp only [reduceCtorEq,Option.some.injEq,Prod.mk.injEq] at e
 case nils =>
  obtain ⟨rfl,rfl⟩:=e
  simp only [xD9,Option.some.injEq] at hl'; subst hl'
  simp only [VR] at hs
  refine ⟨_,w,run hs (by simp),hr,Sim.refl ..,by simp [VR,goInt]⟩
 case eslc =>
  obtain ⟨rfl,rfl⟩:=e
  simp only [xD9,Option.some.injEq] at hl'; subst hl'
  simp only [VR] at hs
  obtain ⟨a,hs⟩:=hs
  have hu0:us.toList=[]:=nothing (List.eq_nil_of_length_eq_zero (by rw [hnl]; simp))
  refine ⟨_,w,run hs ?_,hr,Sim.refl ..,by simp [VR,goInt]⟩
  cases a<;>simp [hu0,storeCells]
 case slc id off len sz' cap =>
  have hs':=hs
  simp only [VR] at hs'
  obtain ⟨b,c,hb0,e1,e2,hcap⟩:=hs'
  cases hbs:Nat.beq (P.cellsOf el) sz' with
  | false=>rw [hbs] at e; cases e
  | true =>
  rw [hbs] at e; simp only [cond_true] at e
  cases hg:h.t.get id with
  | none=>rw [hg] at e; cases e
  | some xb =>
   rw [hg] at e
   cases xb<;>simp only [reduceCtorEq] at e
   rename_i cs sp
   cases ho:mF new with
   | false=>rw [ho] at e; cases e
   | true =>
    rw [ho] at e; simp only [cond_true] at e
    cases hst:setAt cs off new with
    | none=>rw [hst] at e; cases e
    | some cs' =>
     rw [hst] at e
     simp only [Option.some.injEq,Prod.mk.injEq] at e
     obtain ⟨rfl,rfl⟩:=e
     obtain ⟨w',g1,g2,g3⟩:=hr.write (P:=P) hg hb0 hst hnew ho
     exact ⟨_,w',run e1 g1,g2,g3,by simp [VR,goInt]⟩
end
end Go.Abs
end
section
namespace Go.Abs
variable [envI:Env]
section
variable {P:Program} {X:Ctx} {ρ:Nm} {h:H} {w:World} {L:Nat→Prop}
theorem xTl {kt:TypeId} {kn:KeyK} (hk:xP1 P kt=some kn) {k:AV} {y:Value} (hy:VR w ρ L k y) (hko:xBg kn k=true) (em:Bool):(Instr.checkKey em 10000 kt y).run P w=.ok () w:=by
 unfold xBg at hko
 cases hkk:pB kn k k with
 | none=>rw [hkk] at hko; cases hko
 | some b =>
  obtain ⟨xs,_,h1,_,_⟩:=xB4 hkk
  obtain ⟨hf,hh⟩:=xAl hk
  refine run_checkKey 10 10000 kt kn.ks em hf (by omega) y xs (dQ hk h1 hy) ?_
  rcases kG h1 with ⟨_,l1,_⟩ | ⟨ha,rfl⟩
  ·exact l1
  ·rcases hh with ⟨ha',_⟩ | ⟨_,D,hD1,hD2⟩
   ·rw [ha] at ha'; cases ha'
   ·rcases mD hf with ⟨_,hk⟩ | ⟨⟨_,_⟩,hk⟩ | ⟨_,hk⟩ | ⟨fs,hu',_⟩
    ·rw [hk]; rfl
    ·rw [hk]; rfl
    ·rw [hk]; rfl
    ·rw [hD1] at hu'; cases hu'; exact hD2.elim
omit envI in
theorem xRx (old new:Value) (w:World):∃ key n,(key=new∨key=old)∧(Instr.keyThatStays old new).run P w=.ok key { w with drawn:=n }:=by
 unfold Instr.keyThatStays
 by_cases hs:Instr.sameBits 10000 old new=true
 ·exact ⟨new,w.drawn,.inl rfl,by simp [hs]⟩
 ·rw [if_neg hs]
  simp only [Sem.run_bind,run_choose]
  split
  ·refine ⟨new,w.drawn,.inl rfl,by simp⟩
  ·rename_i hq
   by_cases h0 : Question.cut (Question.extern "map.whichKeyStays" 2) (w.tape w.drawn (Question.extern "map.whichKeyStays" 2)) = 0
   ·exact ⟨new,w.drawn+1,.inl rfl,by simp [h0]⟩
   ·exact ⟨old,w.drawn+1,.inr rfl,by simp [h0]⟩
omit envI in
theorem xR0 {kn:KeyK} {k v:AV}:∀ {es:List (AV×AV)},(∀ (i:Nat) (p:AV×AV),es[i]?=some p→pB kn k p.1=some false)→xOm kn k v es=es++[(k,v)]
 | [],_=>rfl
 | (k',v')::es,hh=>by
  have h0:=hh 0 (k',v') rfl
  simp only at h0
  simp only [xOm,h0,List.cons_append]
  rw [xR0 fun i p hp=>hh (i+1) p (by simpa using hp)]
omit envI in
theorem xR1 {kn:KeyK} {k v:AV}:∀ {es:List (AV×AV)} {i:Nat} {p:AV×AV},es[i]?=some p→pB kn k p.1=some true→(∀ (j:Nat) (q:AV×AV),j<i→es[j]?=some q→pB kn k q.1=some false) →
  xOm kn k v es=es.set i (k,v)
 | [],i,p,hp,_,_=>by simp at hp
 | (k',v')::es,0,p,hp,ht,_=>by
  simp at hp; subst hp
  simp only at ht
  simp [xOm,ht]
 | (k',v')::es,i+1,p,hp,ht,hf=>by
  have h0:=hf 0 (k',v') (by omega) rfl
  simp only at h0
  simp only [xOm,h0,List.set_cons_succ]
  rw [xR1 (by simpa using hp) ht fun j q hj hq=>hf (j+1) q (by omega) (by simpa using hq)]
theorem VRs.set:∀ {as1:List AV} {vs:List Value} {i:Nat} {a:AV} {v:Value},VRs w ρ L as1 vs→VR w ρ L a v→VRs w ρ L (as1.set i a) (vs.set i v)
 | [],vs,i,a,v,hv,_=>by simp only [VRs] at hv; subst hv; simp [VRs]
 | b::as1,vs,0,a,v,hv,ha=>by
  simp only [VRs] at hv
  obtain ⟨u,us,rfl,h1,h2⟩:=hv
  simp only [List.set_cons_zero,VRs]
  exact ⟨v,us,rfl,ha,h2⟩
 | b::as1,vs,i+1,a,v,hv,ha=>by
  simp only [VRs] at hv
  obtain ⟨u,us,rfl,h1,h2⟩:=hv
  simp only [List.set_cons_succ,VRs]
  exact ⟨u,_,rfl,h1,h2.set ha⟩
omit envI in
theorem xNa {α β:Type} (f:α→β) (g:α→α) (y:β) (i:Nat) (a:Array α) (hy:∀ x,f (g x)=y):(a.modify i g).toList.map f=(a.toList.map f).set i y:=by
 apply List.ext_getElem?
 intro j
 rw [List.getElem?_set]
 simp only [List.getElem?_map,List.length_map,Array.length_toList,Array.getElem?_toList,Array.getElem?_modify]
 by_cases hj:i=j
 ·subst hj
  by_cases hi:i<a.size
  ·simp [hi,hy]
  ·simp [hi]
 ·simp [hj]
end
end Go.Abs
end
section
namespace Go.Abs
variable [envI:Env]
section
variable {P:Program} {X:Ctx} {ρ:Nm} {h:H} {w:World} {L:Nat→Prop}
omit envI in
theorem mY:∀ {ks:List CK} {xs ys:List AV},wB ks xs ys=some true→xs=ys
 | [],[],[],_=>rfl
 | [],_::_,_,e=>by simp [wB] at e
 | [],[],_::_,e=>by simp [wB] at e
 | k :: ks,xs,ys,e=>by
  cases k<;>rcases xs with _ | ⟨x,xs⟩<;>rcases ys with _ | ⟨y,ys⟩<;>(try cases x)<;>(try cases y)<;>simp only [wB,reduceCtorEq] at e
  ·rename_i a b
   cases hb:(a==b) with
   | false=>rw [hb] at e; cases e
   | true=>rw [hb] at e; simp only [cond_true] at e; rw [mY e,eq_of_beq hb]
  ·rename_i j a k b
   cases hk:eqK j k with
   | false=>rw [hk] at e; cases e
   | true =>
    rw [hk] at e; simp only [cond_true] at e
    cases hb:eqI a b with
    | false=>rw [hb] at e; cases e
    | true =>
     rw [hb] at e; simp only [cond_true] at e
     rw [kE] at hb
     rw [mY e,eq_of_beq hb,wP.1 hk]
  ·exact absurd (xHl e) (by decide)
  ·exact absurd (xHl e) (by decide)
  ·rename_i a b
   cases hb:mV a&&Nat.beq a b with
   | false =>
    rw [hb] at e; simp only [cond_false] at e
    cases ha:vD a b with
    | false=>rw [ha] at e; cases e
    | true =>
     rw [ha] at e; simp only [cond_true] at e
     cases ho:eqI (yD a) (yD b) with
     | false=>rw [ho] at e; cases e
     | true=>rw [ho] at e; simp only [cond_true] at e; rw [mY e,zU3 ha ho]
   | true =>
    rw [hb] at e; simp only [cond_true] at e
    rw [Bool.and_eq_true] at hb
    rw [mY e,Nat.eq_of_beq_eq_true hb.2]
  ·rename_i a b
   cases hb:eqS a b with
   | false=>rw [hb] at e; cases e
   | true=>rw [hb] at e; simp only [cond_true] at e; rw [mY e,qC.1 hb]
  ·rename_i a b
   cases hb:dL b a with
   | false=>rw [hb] at e; cases e
   | true=>rw [hb] at e; cases e
  ·rename_i a b
   cases hb:dL a b with
   | false=>rw [hb] at e; cases e
   | true=>rw [hb] at e; cases e
  ·rename_i a b
   cases hb:nX a&&Nat.beq a b with
   | false=>rw [hb] at e; cases e
   | true =>
    rw [hb] at e; simp only [cond_true] at e
    rw [Bool.and_eq_true] at hb
    rw [mY e,Nat.eq_of_beq_eq_true hb.2]
omit envI in
theorem xX8 {kn:KeyK} {a b:AV} (e:pB kn a b=some true):a=b:=by
 obtain ⟨xs,ys,h1,h2,h3⟩:=xB4 e
 have:=mY h3
 subst this
 rcases kG h1 with ⟨_,_,rfl⟩ | ⟨ha,rfl⟩<;>rcases kG h2 with ⟨hb,_,rfl⟩ | ⟨hb,hh⟩
 ·rfl
 ·simp_all
 ·simp_all
 ·simpa using hh
omit envI in
theorem xK0 {α β:Type} (f:α→β) (g:α→α) (i:Nat) (a:Array α) (hy:∀ x,f (g x)=f x):(a.modify i g).toList.map f=a.toList.map f:=by
 apply List.ext_getElem?
 intro j
 simp only [List.getElem?_map,Array.getElem?_toList,Array.getElem?_modify]
 by_cases hj:i=j
 ·simp only [hj,if_true,Option.map_map]
  cases a[j]? with
  | none=>rfl
  | some x=>simp [hy]
 ·simp [hj]
omit envI in
theorem WFm.push {ms:Array MapEntry} {clock:Nat} (h:WFm ms clock) {k v:Value}:WFm (ms.push { key:=k,val:=v,born:=clock }) (clock+1):=by
 unfold WFm at h ⊢
 simp only [Array.toList_push,List.map_append,List.map_cons,List.map_nil]
 refine ⟨List.nodup_append.2 ⟨h.1,by simp,fun a ha b hb => ?_⟩,fun x hx => ?_⟩
 ·have:=h.2 a ha
  simp only [List.mem_singleton] at hb
  omega
 ·rcases List.mem_append.1 hx with h1 | h1
  ·have:=h.2 x h1
   omega
  ·simp only [List.mem_singleton] at h1
   omega
theorem zC1 (hr:HR P X ρ h w) {t kt et:TypeId} (ht:P.underlying t=some (.map kt et)) {kn:KeyK} (hk:xP1 P kt=some kn) {m k v:AV} {mv kv vv:Value} {h':H}
  (hm:VR w ρ (Lv ρ h) m mv) (hkv:VR w ρ (Lv ρ h) k kv) (hv:VR w ρ (Lv ρ h) v vv) (e:rY h kn m k v=some h') :
  ∃ w',(Instr.mapUpdate t mv kv vv).run P w=.ok () w'∧HR P X ρ h' w'∧Sim ρ (Lv ρ h) w ρ (Lv ρ h') w':=by
 unfold rY at e
 cases hko:xBg kn k with
 | false=>rw [hko] at e; cases e
 | true =>
 rw [hko] at e
 simp only [cond_true] at e
 cases m<;>simp only [reduceCtorEq] at e
 rename_i id
 cases hg:h.t.get id with
 | none=>rw [hg] at e; cases e
 | some x =>
 rw [hg] at e
 cases x<;>simp only [reduceCtorEq] at e
 rename_i es
 cases hf:bM kn k es with
 | none=>rw [hf] at e; cases e
 | some r =>
 rw [hf] at e
 simp only [Option.some.injEq] at e
 subst e
 simp only [VR] at hm
 obtain ⟨b,hb,rfl⟩:=hm
 obtain ⟨b',o,hb',ho,ms,clock,rfl,h1,h2,hwf⟩:=hr.live id _ hg
 cases hb.symm.trans hb'
 have hck:=xTl (P:=P) hk hkv hko false
 have hgo:(getObj b).run P w=.ok (.map ms clock) w:=by simp [getObj,Sem.run,ho]
 obtain ⟨res,hres,hcase⟩:=run_findKey hk hkv h1 h2 hf
 have hset:∀ (w':World) (o:Obj),w'.heap=w.heap→(setObj b o).run P w'=.ok () (gV w' b o):=fun w' o hw=>by
  simp only [setObj,Sem.run,hw,ho,gV]
 rcases hcase with ⟨rfl,rfl,hnf⟩ | ⟨v0,i,val,rfl,rfl,hval,hi,⟨p,hp,hpk,hpv⟩,hnf⟩
 ·have hfin:=hr.set hg hb ho (x':=.amap (xOm kn k v es)) (o':=.map (ms.push { key:=kv,val:=vv,born:=clock }) (clock+1)) (by
   unfold bsz; rw [wT _ _ _ _ (lt_of_heap ho),if_pos rfl,ho]) (fun ρ' L' w' hs=>by
   rw [xR0 hnf]
   refine ⟨_,_,rfl,?_,?_,?_⟩
   ·simp only [List.map_append,List.map_cons,List.map_nil,Array.toList_push]
    exact (h1.mono hs hr.bound).append (by simp only [VRs]; exact ⟨_,_,rfl,hkv.mono hs hr.bound,rfl⟩)
   ·simp only [List.map_append,List.map_cons,List.map_nil,Array.toList_push]
    exact (h2.mono hs hr.bound).append (by simp only [VRs]; exact ⟨_,_,rfl,hv.mono hs hr.bound,rfl⟩)
   ·exact hwf.push) (by
   intro ms0 c0 e0
   cases e0
   exact ⟨_,_,rfl,by simp,fun e1=>by simp at e1⟩)
  refine ⟨_,?_,hfin⟩
  simp only [Instr.mapUpdate,Sem.run_bind,run_underlying ht w,Result.andThen_ok,hgo,hck,hres,hset _ _ rfl]
 ·have hkk:=xX8 hpk
  obtain ⟨key,n,hkey,hrun⟩:=xRx (P:=P) (((ms[i]?).map (·.key)).getD kv) kv w
  have hkey':VR w ρ (Lv ρ h) k key:=by
   rcases hkey with rfl | rfl
   ·exact hkv
   ·have hmi:ms[i]?=some ms[i]:=by simp at hi; simp [hi]
    rw [hmi]
    simp only [Option.map_some,Option.getD_some]
    have h5:(es.map (·.1))[i]?=some k:=by simp [hp,hkk]
    obtain ⟨u,hu1,hu2⟩:=h1.get h5
    simp at hi
    simp [hi] at hu1
    subst hu1
    exact hu2
  obtain ⟨hr1,hs1⟩:=hr.drawn n
  have ho1:({ w with drawn:=n }:World).heap[b]?=some (.map ms clock):=ho
  have hfin:=hr1.set hg hb ho1 (x':=.amap (xOm kn k v es)) (o':=.map (ms.modify i fun e=>{ e with key:=key,val:=vv }) clock) (by
   unfold bsz; rw [wT _ _ _ _ (lt_of_heap ho1),if_pos rfl,ho1]) (fun ρ' L' w' hs=>by
   rw [xR1 hp hpk hnf]
   refine ⟨_,_,rfl,?_,?_,?_⟩
   ·rw [xNa (·.key) _ key i ms (fun _=>rfl),List.map_set]
    exact ((h1.mono hs1 hr.bound).mono hs hr1.bound).set ((hkey'.mono hs1 hr.bound).mono hs hr1.bound)
   ·rw [xNa (·.val) _ vv i ms (fun _=>rfl),List.map_set]
    exact ((h2.mono hs1 hr.bound).mono hs hr1.bound).set ((hv.mono hs1 hr.bound).mono hs hr1.bound)
   ·unfold WFm
    rw [xK0 (·.born) (fun e=>{ e with key:=key,val:=vv }) i ms (fun _=>rfl)]
    exact hwf) (by
   intro ms0 c0 e0
   cases e0
   exact ⟨_,_,rfl,by simp,fun _=>⟨rfl,xK0 (·.born) (fun e=>{ e with key:=key,val:=vv }) i ms (fun _=>rfl)⟩⟩)
  refine ⟨_,?_,hfin.1,hs1.trans hfin.2⟩
  simp only [Instr.mapUpdate,Sem.run_bind,run_underlying ht w,Result.andThen_ok,hgo,hck,hres,hrun]
  exact hset _ _ rfl
end
end Go.Abs
end
section
namespace Go.Abs
variable [envI:Env]
section
variable {P:Program} {X:Ctx} {ρ:Nm} {h:H} {w:World} {L:Nat→Prop}
omit envI in
theorem xWo {s:ByteArray} {i b:Nat} (e:(xP s)[i]?=some b):∃ hi:i<s.size,(s[i]'hi).toNat=b:=by
 simp only [xP,List.getElem?_map,Option.map_eq_some_iff] at e
 obtain ⟨u,h1,h2⟩:=e
 have hi:i<s.data.size:=by
  rcases Nat.lt_or_ge i s.data.size with h3 | h3
  ·exact h3
  ·rw [List.getElem?_eq_none (by simpa using h3)] at h1; cases h1
 refine ⟨hi,?_⟩
 have:s.data[i]'hi=u:=by
  rw [Array.getElem?_toList,Array.getElem?_eq_getElem hi] at h1
  exact Option.some.inj h1
 rw [← h2,← this]
 rfl
theorem next_ok (hr:HR P X ρ h w) {id:Pth} {s:List Nat} {pos:Nat} {b:Nat} (hb:ρ id=some b) (hg:h.t.get id=some (.siter s pos)) (ty:TypeId) :
  match s[pos]? with
  | none=>(Instr.next (.pointer (some ⟨b,0,none⟩)) true ty).run P w=.ok (.tuple #[.bool false]) w
  | some c=>c<128→∃ w',(Instr.next (.pointer (some ⟨b,0,none⟩)) true ty).run P w=.ok (.tuple #[.bool true,.int .i64 pos,.int .i32 c]) w' ∧
   HR P X ρ { h with t:=h.t.put id (.siter s (pos+1)) } w'∧Sim ρ (Lv ρ h) w ρ (Lv ρ { h with t:=h.t.put id (.siter s (pos+1)) }) w':=by
 obtain ⟨b',o,hb',ho,x,rfl,rfl⟩:=hr.live id _ hg
 cases hb.symm.trans hb'
 have hgo:(getObj b).run P w=.ok (.stringIter x pos) w:=by simp [getObj,Sem.run,ho]
 cases hc:(xP x)[pos]? with
 | none =>
  simp only
  have:¬ pos<x.size:=by
   intro h1
   have h2:pos<(xP x).length:=by simp only [xP,List.length_map]; exact h1
   rw [List.getElem?_eq_getElem h2] at hc; cases hc
  simp [Instr.next,hgo,this]
 | some c =>
  simp only
  intro hlt
  obtain ⟨hi,hx⟩:=xWo hc
  have hd:=decode_ascii x pos hi (by rw [hx]; exact hlt)
  rw [hx] at hd
  have hfin:=hr.set hg hb ho (x':=.siter (xP x) (pos+1)) (o':=.stringIter x (pos+1)) (by
   unfold bsz; rw [wT _ _ _ _ (lt_of_heap ho),if_pos rfl,ho]) (fun ρ' L' w' hs=>⟨x,rfl,rfl⟩)
  refine ⟨_,?_,hfin⟩
  have hset:(setObj b (.stringIter x (pos+1))).run P w=.ok () (gV w b (.stringIter x (pos+1))):=by simp only [setObj,Sem.run,ho,gV]
  simp only [Instr.next,Sem.run_bind,hgo,Result.andThen_ok,if_pos hi,hd,hset,Sem.run_pure,goInt]
end
end Go.Abs
end
section
namespace Go.Abs
mutual
theorem AV.beq_eq:∀ (a b:AV),AV.beq a b=true→a=b
 | .bool a,b,h=>by cases b<;>simp only [AV.beq,Bool.false_eq_true] at h; rw [beq_iff_eq.1 h]
 | .int j a,b,h=>by
  cases b<;>simp only [AV.beq,Bool.false_eq_true] at h
  rw [Bool.and_eq_true] at h
  obtain ⟨h1,h2⟩:=h
  rw [kE] at h2
  rw [wP.1 h1,beq_iff_eq.1 h2]
 | .str a,b,h=>by cases b<;>simp only [AV.beq,Bool.false_eq_true] at h; rw [qC.1 h]
 | .nilp,b,h=>by cases b<;>simp only [AV.beq,Bool.false_eq_true] at h; rfl
 | .ptr p i,b,h=>by
  cases b<;>simp only [AV.beq,Bool.false_eq_true] at h
  rw [Bool.and_eq_true] at h
  obtain ⟨h1,h2⟩:=h
  rw [Pth.beq_iff.1 h1,Nat.eq_of_beq_eq_true h2]
 | .rptr xs,b,h=>by cases b<;>simp only [AV.beq,Bool.false_eq_true] at h; rw [AV.beqs_eq _ _ h]
 | .nils,b,h=>by cases b<;>simp only [AV.beq,Bool.false_eq_true] at h; rfl
 | .slc p i n z c,b,h=>by
  cases b<;>simp only [AV.beq,Bool.false_eq_true] at h
  rename_i p' i' n' z' c'
  rw [Bool.and_eq_true,Bool.and_eq_true,Bool.and_eq_true,Bool.and_eq_true] at h
  obtain ⟨⟨⟨⟨h1,h2⟩,h3⟩,h4⟩,h5⟩:=h
  rw [Pth.beq_iff.1 h1,Nat.eq_of_beq_eq_true h2,Nat.eq_of_beq_eq_true h3,Nat.eq_of_beq_eq_true h4]
  cases c<;>cases c'<;>simp only [Bool.false_eq_true] at h5
  ·rfl
  ·rw [Nat.eq_of_beq_eq_true h5]
 | .rslc n xs,b,h=>by
  cases b<;>simp only [AV.beq,Bool.false_eq_true] at h
  rw [Bool.and_eq_true] at h
  obtain ⟨h1,h2⟩:=h
  rw [Nat.eq_of_beq_eq_true h1,AV.beqs_eq _ _ h2]
 | .eslc,b,h=>by cases b<;>simp only [AV.beq,Bool.false_eq_true] at h; rfl
 | .nilm,b,h=>by cases b<;>simp only [AV.beq,Bool.false_eq_true] at h; rfl
 | .mapv p,b,h=>by cases b<;>simp only [AV.beq,Bool.false_eq_true] at h; rw [Pth.beq_iff.1 h]
 | .rmap xs ys,b,h=>by
  cases b<;>simp only [AV.beq,Bool.false_eq_true] at h
  rw [Bool.and_eq_true] at h
  obtain ⟨h1,h2⟩:=h
  rw [AV.beqs_eq _ _ h1,AV.beqs_eq _ _ h2]
 | .nilf,b,h=>by cases b<;>simp only [AV.beq,Bool.false_eq_true] at h; rfl
 | .fn f xs ys,b,h=>by
  cases b<;>simp only [AV.beq,Bool.false_eq_true] at h
  rw [Bool.and_eq_true,Bool.and_eq_true] at h
  obtain ⟨⟨h1,h2⟩,h3⟩:=h
  rw [Pth.beq_iff.1 h1,AV.beqs_eq _ _ h2,AV.beqs_eq _ _ h3]
 | .yield p,b,h=>by cases b<;>simp only [AV.beq,Bool.false_eq_true] at h; rw [Pth.beq_iff.1 h]
 | .nili,b,h=>by cases b<;>simp only [AV.beq,Bool.false_eq_true] at h; rfl
 | .iface t x,b,h=>by
  cases b<;>simp only [AV.beq,Bool.false_eq_true] at h
  rw [Bool.and_eq_true] at h
  obtain ⟨h1,h2⟩:=h
  rw [Nat.eq_of_beq_eq_true h1,AV.beq_eq _ _ h2]
 | .agg xs,b,h=>by cases b<;>simp only [AV.beq,Bool.false_eq_true] at h; rw [AV.beqs_eq _ _ h]
 | .tup xs,b,h=>by cases b<;>simp only [AV.beq,Bool.false_eq_true] at h; rw [AV.beqs_eq _ _ h]
 | .sym i,b,h=>by cases b<;>simp only [AV.beq,Bool.false_eq_true] at h; rw [Nat.eq_of_beq_eq_true h]
theorem AV.beqs_eq:∀ (a b:List AV),AV.beqs a b=true→a=b
 | [],b,h=>by cases b<;>simp only [AV.beqs,Bool.false_eq_true] at h; rfl
 | x::xs,b,h=>by
  cases b<;>simp only [AV.beqs,Bool.false_eq_true] at h
  rw [Bool.and_eq_true] at h
  obtain ⟨h1,h2⟩:=h
  rw [AV.beq_eq _ _ h1,AV.beqs_eq _ _ h2]
end
variable [envI:Env]
section
variable {P:Program} {X:Ctx} {ρ:Nm} {h:H} {w:World} {L:Nat→Prop}
theorem VRs.of_get {as1:List AV} {vs:List Value} {i:Nat} {v:Value} (h:VRs w ρ L as1 vs) (e:vs[i]?=some v):∃ a,as1[i]?=some a∧VR w ρ L a v:=by
 have hl:=h.length
 have hi:i<vs.length:=by
  rcases Nat.lt_or_ge i vs.length with h1 | h1
  ·exact h1
  ·rw [List.getElem?_eq_none h1] at e; cases e
 obtain ⟨v',e',hv⟩:=h.get (i:=i) (a:=as1[i]'(by omega)) (List.getElem?_eq_getElem _)
 rw [e'] at e
 cases e
 exact ⟨_,List.getElem?_eq_getElem _,hv⟩
theorem xYy {es:List (AV×AV)} {ks vs:List Value} {a v:AV} (e:xWm es=some (a,v)) (h1:VRs w ρ L (es.map (·.1)) ks) (h2:VRs w ρ L (es.map (·.2)) vs):∀ (i:Nat) (k x:Value),ks[i]?=some k→vs[i]?=some x→VR w ρ L a k∧VR w ρ L v x:=by
 match es,e with
 | [(k0,v0)],e =>
  simp only [xWm,Option.some.injEq,Prod.mk.injEq] at e
  obtain ⟨rfl,rfl⟩:=e
  simp only [List.map_cons,List.map_nil,VRs] at h1 h2
  obtain ⟨k1,_,rfl,g1,rfl⟩:=h1
  obtain ⟨v1,_,rfl,g2,rfl⟩:=h2
  intro i k x e1 e2
  cases i with
  | zero=>simp at e1 e2; subst e1; subst e2; exact ⟨g1,g2⟩
  | succ i=>simp at e1
 | (k0,v0)::e0::es,e =>
  simp only [xWm] at e
  cases hc:k0.one&&(e0::es).all (fun p=>p.1.one&&AV.beq v0 p.2) with
  | false=>rw [hc] at e; cases e
  | true =>
   rw [hc] at e
   simp only [cond_true,Option.some.injEq,Prod.mk.injEq] at e
   obtain ⟨rfl,rfl⟩:=e
   simp only [Bool.and_eq_true,List.all_eq_true] at hc
   have hk:∀ p∈(k0,v0)::e0::es,p.1.one=true:=fun p hp=>by
    rcases List.mem_cons.1 hp with rfl | hp
    ·exact hc.1
    ·exact (hc.2 p hp).1
   have hv:∀ p∈(k0,v0)::e0::es,p.2=v0:=fun p hp=>by
    rcases List.mem_cons.1 hp with rfl | hp
    ·rfl
    ·exact (AV.beq_eq _ _ (hc.2 p hp).2).symm
   generalize (k0,v0)::e0::es=l at h1 h2 hk hv
   intro i k x e1 e2
   obtain ⟨a1,f1,f2⟩:=h1.of_get e1
   obtain ⟨a2,f3,f4⟩:=h2.of_get e2
   simp only [List.getElem?_map,Option.map_eq_some_iff] at f1 f3
   obtain ⟨p,f5,rfl⟩:=f1
   obtain ⟨q,f6,rfl⟩:=f3
   refine ⟨?_,hv q (List.mem_of_getElem? f6)▸f4⟩
   simp only [VR]
   exact Env.top (xQj f2 (hk p (List.mem_of_getElem? f5)))
omit envI in
theorem xI4:∀ {A B:List Nat},A.Nodup→(∀ x∈A,x∈B)→A.length≤B.length
 | [],_,_,_=>Nat.zero_le _
 | a::A,B,hn,hs=>by
  have h0:=hs a List.mem_cons_self
  have h1:=xI4 (A:=A) (B:=B.erase a) (List.nodup_cons.1 hn).2 (fun x hx=>(List.mem_erase_of_ne (fun e=>(by subst e; exact (List.nodup_cons.1 hn).1 hx))).2 (hs x (List.mem_cons_of_mem _ hx)))
  have h2:=List.length_erase_of_mem h0
  have h3:=List.length_pos_of_mem h0
  simp only [List.length_cons]
  omega
omit envI in
theorem zZ2 {A B:List Nat} (ha:A.Nodup) (hl:B.length<A.length):∃ x∈A,x∉B:=by
 refine Classical.byContradiction fun hn => ?_
 have hs:A ⊆ B:=fun x hx=>Classical.byContradiction fun h=>hn ⟨x,hx,h⟩
 have:=xI4 ha hs
 omega
omit envI in
theorem all_seen {A B:List Nat} (hb:B.Nodup) (hs:∀ x∈B,x∈A) (hl:A.length≤B.length):∀ x∈A,x∈B:=by
 intro x hx
 refine Classical.byContradiction fun hn => ?_
 have:=xI4 (A:=x::B) (B:=A) (List.nodup_cons.2 ⟨hn,hb⟩) (fun y hy=>by
  rcases List.mem_cons.1 hy with rfl | hy
  ·exact hx
  ·exact hs y hy)
 simp only [List.length_cons] at this
 omega
theorem zJ8 (hr:HR P X ρ h w) {id:Pth} {m:Option Pth} {n k:Nat} {b:Nat} (hb:ρ id=some b) (hg:h.t.get id=some (.miter m n k)) (ty:TypeId) {r:AV} {h':H} (e:xNf h id m n k=.val r h') :
  ∃ v w',(Instr.next (.pointer (some ⟨b,0,none⟩)) false ty).run P w=.ok v w'∧HR P X ρ h' w'∧Sim ρ (Lv ρ h) w ρ (Lv ρ h') w'∧VR w' ρ (Lv ρ h') r v:=by
 obtain ⟨b',o,hb',ho,hbr⟩:=hr.live id _ hg
 cases hb.symm.trans hb'
 have hfalse:VR w ρ (Lv ρ h) (.tup [.bool false]) (.tuple #[.bool false]):=by simp [VR,VRs]
 cases m with
 | none =>
  obtain ⟨s,q,l,rfl⟩:=hbr
  simp only [xNf,ORes.val.injEq] at e
  obtain ⟨rfl,rfl⟩:=e
  refine ⟨_,w,?_,hr,Sim.refl ..,hfalse⟩
  simp [Instr.next,getObj,Sem.run,ho]
 | some m =>
  obtain ⟨bm,since,seen,ms,clock,hm,rfl,hms,hle,hst⟩:=hbr
  simp only [xNf] at e
  cases hgm:h.t.get m with
  | none=>rw [hgm] at e; cases e
  | some x =>
  rw [hgm] at e
  cases x<;>simp only [reduceCtorEq] at e
  rename_i es
  obtain ⟨bm',o,hm',ho',ms',clock',rfl,h1,h2,hwf⟩:=hr.live m _ hgm
  cases hm.symm.trans hm'
  rw [ho'] at hms
  cases hms
  cases hln:Nat.beq es.length n with
  | false=>rw [hln] at e; cases e
  | true =>
  rw [hln] at e
  simp only [cond_true] at e
  have hlen:ms.size=n:=by
   have:=h1.length
   simp only [List.length_map,Array.length_toList] at this
   have h9:=Nat.eq_of_beq_eq_true hln
   omega
  obtain ⟨rfl,rfl,hnd,hsub⟩:=hst hlen
  have hgo:(getObj b).run P w=.ok (.mapIter (some bm) clock seen clock) w:=by simp [getObj,Sem.run,ho]
  have hgm':(getObj bm).run P w=.ok (.map ms clock) w:=by simp [getObj,Sem.run,ho']
  have htest:(!seen.isEmpty && !ms.isEmpty&&ms.all (fun x=>decide (x.born≥clock)))=false:=by
   cases hE:ms.isEmpty with
   | true=>simp
   | false =>
    have : ms.all (fun x=>decide (x.born≥clock))=false:=by
     rw [Bool.eq_false_iff]
     intro hA
     rw [Array.all_eq_true_iff_forall_mem] at hA
     have h0:0<ms.size:=by
      rcases Nat.eq_zero_or_pos ms.size with h0 | h0
      ·simp [Array.isEmpty,h0] at hE
      ·exact h0
     have hx:=hA _ (Array.getElem_mem h0)
     have hy:=hwf.2 ms[0].born (List.mem_map.2 ⟨ms[0],by simp,rfl⟩)
     simp at hx
     omega
    simp [this]
  have hF:∀ x∈(ms.filter fun e => !seen.contains e.born),x.born<clock:=fun x hx=>hwf.2 _ (List.mem_map.2 ⟨x,by simp at hx ⊢; exact hx.1,rfl⟩)
  generalize hLe:(ms.filter fun e => !seen.contains e.born)=L at hF
  have e1:L.filter (fun x=>decide (x.born<clock))=L:=Array.filter_eq_self.2 (fun x hx=>by simpa using hF x hx)
  have e2:L.filter (fun x=>decide (x.born≥clock)) = #[]:=by
   rw [Array.filter_eq_empty_iff]
   intro x hx
   have:=hF x hx
   simp
   omega
  cases hk:Nat.blt seen.size n with
  | false =>
   rw [hk] at e
   simp only [cond_false,ORes.val.injEq] at e
   obtain ⟨rfl,rfl⟩:=e
   have hk:n≤seen.size:=by
    rcases Nat.lt_or_ge seen.size n with h9 | h9
    ·rw [show Nat.blt seen.size n=true from by simpa using h9] at hk; cases hk
    ·exact h9
   have hL0:L = #[]:=by
    rw [← hLe,Array.filter_eq_empty_iff]
    intro x hx
    have:=all_seen hnd hsub (by simp only [List.length_map,Array.length_toList]; omega) x.born (List.mem_map.2 ⟨x,by simpa using hx,rfl⟩)
    simp at this ⊢
    exact this
   subst hL0
   refine ⟨_,w,?_,hr,Sim.refl ..,hfalse⟩
   simp only [Instr.next,Sem.run_bind,hgo,hgm',Result.andThen_ok,htest,Bool.false_eq_true,if_false,hLe,e1,e2]
   simp [Question.forced]
  | true =>
   rw [hk] at e
   simp only [cond_true] at e
   have hk:seen.size<n:=by simpa using hk
   cases hany:xWm es with
   | none=>rw [hany] at e; cases e
   | some p =>
   obtain ⟨a,v⟩:=p
   rw [hany] at e
   simp only [ORes.val.injEq] at e
   obtain ⟨rfl,rfl⟩:=e
   have hne:L.isEmpty=false:=by
    obtain ⟨x,hx1,hx2⟩:=zZ2 (B:=seen.toList) hwf.1 (by simp only [List.length_map,Array.length_toList]; omega)
    obtain ⟨y,hy1,rfl⟩:=List.mem_map.1 hx1
    have:y∈L:=by
     rw [← hLe]
     simp at hy1 hx2 ⊢
     exact ⟨hy1,hx2⟩
    rw [Bool.eq_false_iff]
    intro hE
    rw [Array.isEmpty_iff] at hE
    rw [hE] at this
    simp at this
   have hsz:0<L.size:=by
    rcases Nat.eq_zero_or_pos L.size with h0 | h0
    ·simp [Array.isEmpty,h0] at hne
    ·exact h0
   have hch:∃ (j d:Nat),j<L.size∧(choose (Question.mapNext L.size)).run P w=.ok j { w with drawn:=d }:=by
    by_cases hf:L.size≤1
    ·exact ⟨0,w.drawn,hsz,by simp [Question.forced,hf]⟩
    ·exact ⟨w.tape w.drawn (Question.mapNext L.size) % L.size,w.drawn+1,Nat.mod_lt _ hsz,by simp [Question.forced,hf,Question.cut]⟩
   obtain ⟨j,d,hj,hrun⟩:=hch
   have hmem:L[j]∈ms∧L[j].born∉seen.toList:=by
    have hx:∀ x∈L,x∈ms∧x.born∉seen.toList:=by
     rw [← hLe]
     intro x hx
     simp at hx
     exact ⟨hx.1,by simpa using hx.2⟩
    exact hx _ (Array.getElem_mem hj)
   obtain ⟨hr1,hs1⟩:=hr.drawn d
   have ho1:({ w with drawn:=d }:World).heap[b]?=some (.mapIter (some bm) clock seen clock):=ho
   have hfin:=hr1.set hg hb ho1 (x':=.miter (some m) n (seen.size+1)) (o':=.mapIter (some bm) clock (seen.push L[j].born) clock) (by
    unfold bsz; rw [wT _ _ _ _ (lt_of_heap ho1),if_pos rfl,ho1]) (fun ρ' L' w' hs=>by
    obtain ⟨ms2,c2,f1,f2,f3⟩:=(hs.cells bm (hr1.bound _ _ hm)).2 _ ho' ms clock rfl
    refine ⟨bm,clock,seen.push L[j].born,ms2,c2,hs.names _ _ hm,rfl,f1,by omega,fun e9 => ?_⟩
    obtain ⟨f4,f5⟩:=f3 (by omega)
    refine ⟨f4,by simp,?_,fun x hx => ?_⟩
    ·rw [Array.toList_push]
     exact List.nodup_append.2 ⟨hnd,by simp,fun x hx y hy=>by
      simp only [List.mem_singleton] at hy
      subst hy
      exact fun e=>hmem.2 (e▸hx)⟩
    ·rw [f5]
     rw [Array.toList_push] at hx
     rcases List.mem_append.1 hx with hx | hx
     ·exact hsub x hx
     ·simp only [List.mem_singleton] at hx
      subst hx
      exact List.mem_map.2 ⟨_,by simpa using hmem.1,rfl⟩)
   refine ⟨.tuple #[.bool true,L[j].key,L[j].val],_,?_,hfin.1,hs1.trans hfin.2,?_⟩
   ·have hset:(setObj b (.mapIter (some bm) clock (seen.push L[j].born) clock)).run P { w with drawn:=d }=.ok () (gV { w with drawn:=d } b (.mapIter (some bm) clock (seen.push L[j].born) clock)):=by
     simp only [setObj,Sem.run,ho1,gV]
    simp only [Instr.next,Sem.run_bind,hgo,hgm',Result.andThen_ok,htest,Bool.false_eq_true,if_false,hLe,e1,e2,hne,Array.append_empty,Array.empty_append,Array.size_map,hrun,Array.getElem?_map,Array.getElem?_eq_getElem hj,Option.map_some,hset,Sem.run_pure]
   ·obtain ⟨i,hi,hei⟩:=List.mem_iff_getElem.1 (show L[j]∈ms.toList by simpa using hmem.1)
    have hval:=xYy hany h1 h2 i L[j].key L[j].val (by rw [List.getElem?_map,List.getElem?_eq_getElem hi,hei]; rfl) (by rw [List.getElem?_map,List.getElem?_eq_getElem hi,hei]; rfl)
    simp only [VR,VRs]
    exact ⟨_,rfl,_,_,rfl,rfl,_,_,rfl,(hval.1.mono hs1 hr.bound).mono hfin.2 hr1.bound,_,_,rfl,(hval.2.mono hs1 hr.bound).mono hfin.2 hr1.bound,rfl⟩
theorem zBr (hr:HR P X ρ h w) {id:Pth} {m:Option Pth} {n k:Nat} {b:Nat} (hb:ρ id=some b) (hg:h.t.get id=some (.miter m n k)) {r:AV} {h':H} (e:xHp h m n k=.val r h') :
  ∃ v,(Instr.entry (.pointer (some ⟨b,0,none⟩))).run P w=.ok v w∧h'=h∧VR w ρ (Lv ρ h) r v:=by
 obtain ⟨b',o,hb',ho,hbr⟩:=hr.live id _ hg
 cases hb.symm.trans hb'
 cases m with
 | none=>cases e
 | some m =>
  obtain ⟨bm,since,seen,ms,clock,hm,rfl,hms,hle,hst⟩:=hbr
  simp only [xHp] at e
  cases hgm:h.t.get m with
  | none=>rw [hgm] at e; cases e
  | some x =>
  rw [hgm] at e
  cases x<;>simp only [reduceCtorEq] at e
  rename_i es
  obtain ⟨bm',o,hm',ho',ms',clock',rfl,h1,h2,hwf⟩:=hr.live m _ hgm
  cases hm.symm.trans hm'
  rw [ho'] at hms
  cases hms
  cases hln:Nat.beq es.length n&&Nat.blt 0 k with
  | false=>rw [hln] at e; cases e
  | true =>
  rw [hln] at e
  simp only [cond_true] at e
  rw [Bool.and_eq_true] at hln
  have hlen:ms.size=n:=by
   have:=h1.length
   simp only [List.length_map,Array.length_toList] at this
   have h9:=Nat.eq_of_beq_eq_true hln.1
   omega
  obtain ⟨rfl,rfl,hnd,hsub⟩:=hst hlen
  have hk:0<seen.size:=by simpa using hln.2
  cases hany:xWm es with
  | none=>rw [hany] at e; cases e
  | some p =>
  obtain ⟨a,v⟩:=p
  rw [hany] at e
  simp only [ORes.val.injEq] at e
  obtain ⟨rfl,rfl⟩:=e
  have hgo:(getObj b).run P w=.ok (.mapIter (some bm) clock seen clock) w:=by simp [getObj,Sem.run,ho]
  have hgm':(getObj bm).run P w=.ok (.map ms clock) w:=by simp [getObj,Sem.run,ho']
  have hback:seen.back?=some (seen[seen.size - 1]'(by omega)):=by
   rw [Array.back?_eq_getElem?,Array.getElem?_eq_getElem (by omega)]
  have hin:=hsub (seen[seen.size - 1]'(by omega)) (by simp)
  obtain ⟨e0,he0,hborn⟩:=List.mem_map.1 hin
  cases hfind:ms.find? (·.born==seen[seen.size - 1]'(by omega)) with
  | none =>
   rw [Array.find?_eq_none] at hfind
   have:=hfind e0 (by simpa using he0)
   simp [hborn] at this
  | some en =>
   have hen:en∈ms:=Array.mem_of_find?_eq_some hfind
   refine ⟨.tuple #[en.key,en.val],?_,rfl,?_⟩
   ·simp only [Instr.entry,Sem.run_bind,hgo,hgm',Result.andThen_ok,hback,bne_self_eq_false,Bool.false_eq_true,if_false,hfind,Sem.run_pure]
   ·obtain ⟨i,hi,hei⟩:=List.mem_iff_getElem.1 (show en∈ms.toList by simpa using hen)
    have hval:=xYy hany h1 h2 i en.key en.val (by rw [List.getElem?_map,List.getElem?_eq_getElem hi,hei]; rfl) (by rw [List.getElem?_map,List.getElem?_eq_getElem hi,hei]; rfl)
    simp only [VR,VRs]
    exact ⟨_,rfl,_,_,rfl,hval.1,_,_,rfl,hval.2,rfl⟩
end
def xMz:AOp→Bool
 | .store _ | .mapUpd _ | .next _ | .append .. | .copy _ | .rangeMap | .entry=>true
 | _=>false
section
variable {P:Program} {X:Ctx} {ρ:Nm} {h:H} {w:World} {L:Nat→Prop} {fr:Tr AV} {a:Act}
omit envI in
set_option maxHeartbeats 1000000 in
theorem xRd {t:TypeId} {op:Op} {aop:AOp} {os:List Opd} (hc:qO P t op=some (aop,os)):xMz aop=false∨(∃ t a x,op=.store t a x)∨(∃ t m k x,op=.mapUpdate t m k x∨op=.insert t m k x) ∨
  (∃ it s,op=.next it s)∨(∃ args ts,op=.call ⟨.builtin .append,args,ts⟩)∨(∃ args ts,op=.call ⟨.builtin .copy,args,ts⟩)∨(∃ ty x,op=.range ty x∧aop=.rangeMap)∨(∃ it,op=.entry it):=by
 cases op
 case store t a x=>exact .inr (.inl ⟨_,_,_,rfl⟩)
 case mapUpdate=>exact .inr (.inr (.inl ⟨_,_,_,_,.inl rfl⟩))
 case insert=>exact .inr (.inr (.inl ⟨_,_,_,_,.inr rfl⟩))
 case next=>exact .inr (.inr (.inr (.inl ⟨_,_,rfl⟩)))
 case entry=>exact .inr (.inr (.inr (.inr (.inr (.inr (.inr ⟨_,rfl⟩))))))
 case range ty x =>
  simp only [qO,Option.bind_eq_bind,Option.pure_def] at hc
  split at hc
  ·simp only [Option.bind_eq_some_iff,Option.some.injEq,Prod.mk.injEq] at hc
   obtain ⟨_,_,rfl,_⟩:=hc
   exact .inl rfl
  ·simp only [Option.bind_eq_some_iff,Option.some.injEq,Prod.mk.injEq] at hc
   obtain ⟨_,_,rfl,_⟩:=hc
   exact .inr (.inr (.inr (.inr (.inr (.inr (.inl ⟨_,_,rfl,rfl⟩))))))
  ·cases hc
 case makeFunc fn first caught =>
  cases fn<;>simp only [qO,Option.bind_eq_bind,Option.bind_eq_some_iff,Option.pure_def,Option.some.injEq,Prod.mk.injEq,reduceCtorEq] at hc
  obtain ⟨l1,h1,l2,h2,rfl,rfl⟩:=hc
  exact .inl rfl
 case defer c =>
  obtain ⟨callee,args,argTypes⟩:=c
  cases callee<;>simp only [qO,Option.bind_eq_bind,Option.bind_eq_some_iff,Option.pure_def,Option.some.injEq,Prod.mk.injEq,reduceCtorEq] at hc
  obtain ⟨_,_,_,_,rfl,rfl⟩:=hc
  exact .inl rfl
 case call c =>
  obtain ⟨callee,args,argTypes⟩:=c
  cases callee with
  | value f =>
   simp only [qO,Option.bind_eq_bind,Option.bind_eq_some_iff,Option.pure_def,Option.some.injEq,Prod.mk.injEq] at hc
   obtain ⟨_,_,_,_,rfl,rfl⟩:=hc
   exact .inl rfl
  | invoke rc nm =>
   simp only [qO,Option.bind_eq_bind,Option.bind_eq_some_iff,Option.pure_def,Option.some.injEq,Prod.mk.injEq] at hc
   obtain ⟨_,_,_,_,rfl,rfl⟩:=hc
   exact .inl rfl
  | builtin b =>
   simp only [qO,Option.bind_eq_bind,Option.bind_eq_some_iff,Option.pure_def] at hc
   obtain ⟨as1,has,hc⟩:=hc
   cases b
   case append=>exact .inr (.inr (.inr (.inr (.inl ⟨_,_,rfl⟩))))
   case copy=>exact .inr (.inr (.inr (.inr (.inr (.inl ⟨_,_,rfl⟩)))))
   all_goals
    left
    repeat' first
     | contradiction
     | (cases hc; done)
     | (obtain ⟨h1,hc⟩:=hc; try subst h1)
     | (split at hc)
     | (simp only [Option.bind_eq_bind,Option.bind_eq_some_iff,Option.pure_def,Option.some.injEq,Prod.mk.injEq,reduceCtorEq] at hc)
     | rfl
 all_goals
  left
  simp only [qO,Option.bind_eq_bind,Option.bind_eq_some_iff,Option.pure_def,Option.some.injEq,Prod.mk.injEq,reduceCtorEq] at hc
 all_goals
  repeat' first
   | contradiction
   | (cases hc; done)
   | (obtain ⟨h1,hc⟩:=hc; try subst h1)
   | (split at hc)
   | (simp only [Option.bind_eq_some_iff,Option.some.injEq,Prod.mk.injEq] at hc)
   | rfl
omit envI in
theorem xW1 {aop:AOp} {vs:List AV} {r:AV} {h':H} (hn:xMz aop=false) (e:zS h aop vs=.val r h') :
  (∃ b,jX aop vs h.next=some (r,b)∧h'=h.newB b)∨(xM h aop vs=some r∧h'=h):=by
 unfold zS at e
 split at e
 all_goals try (first | (simp only [xMz,Bool.true_eq_false] at hn; done) | (cases e; done) | (split at e<;>cases e; done))
 rename_i op args _ _ _ _ _ _ _ _ _ _
 cases hm:xO aop with
 | true =>
  rw [hm] at e; simp only [cond_true] at e
  cases hk:jX aop vs h.next with
  | none=>rw [hk] at e; cases e
  | some p =>
   obtain ⟨v,b⟩:=p
   rw [hk] at e
   simp only [ORes.val.injEq] at e
   obtain ⟨rfl,rfl⟩:=e
   exact .inl ⟨b,rfl,rfl⟩
 | false =>
  rw [hm] at e; simp only [cond_false] at e
  cases hk:xM h aop vs with
  | none=>rw [hk] at e; cases e
  | some v =>
   rw [hk] at e
   simp only [ORes.val.injEq] at e
   obtain ⟨rfl,rfl⟩:=e
   exact .inr ⟨rfl,rfl⟩
end
end Go.Abs
end
section
namespace Go.Abs
variable [envI:Env]
def zG8 (P:Program) (X:Ctx) (ρ:Nm) (h:H) (w:World) (s:Sem Next) (r:AV) (h':H):Prop :=
 ∃ n v w' ρ',s.run P w=.ok n w'∧(n=.value v∨n=.skip∧v=.tuple #[])∧HR P X ρ' h' w'∧Sim ρ (Lv ρ h) w ρ' (Lv ρ' h') w'∧VR w' ρ' (Lv ρ' h') r v
section
variable {P:Program} {X:Ctx} {ρ:Nm} {h:H} {w:World} {L:Nat→Prop} {fr:Tr AV} {a:Act}
theorem xC3 {s:Sem Next} {r:AV} {b:AB} (hr:HR P X ρ h w) (hm:zGr P ρ (Lv ρ h) w s h.next r b):zG8 P X ρ h w s r (h.newB b):=by
 obtain ⟨v,o,k,h1,h2,h3⟩:=hm
 obtain ⟨hr1,hs1⟩:=hr.drawn k
 obtain ⟨hr2,hs2⟩:=hr1.newB (x:=b) (o:=o) (fun ρ' L' w' hs=>h2 ρ' L' w' (hs1.trans hs))
 exact ⟨_,v,_,_,h1,.inl rfl,hr2,hs1.trans hs2,h3 _ _ _ (zW _ _ _) (by rw [jJ]; simp)⟩
theorem xVw {s:Sem Next} {r:AV} (hr:HR P X ρ h w) (hm:∃ v,s.run P w=.ok (.value v) w∧VR w ρ (Lv ρ h) r v):zG8 P X ρ h w s r h:=by
 obtain ⟨v,h1,h2⟩:=hm
 exact ⟨_,v,w,ρ,h1,.inl rfl,hr,Sim.refl ..,h2⟩
theorem xCp {w:World} {ρ:Nm} {L:Nat→Prop}:VR w ρ L (.tup []) (.tuple #[]):=by
 simp only [VR]; exact ⟨#[],rfl,by simp [VRs]⟩
theorem two_args {L:Nat→Prop} {args:Array Operand} {v1 v2:AV} (hv:VRs w ρ L [v1,v2] (args.toList.map a.eval)):∃ s x,args.map a.eval = #[s,x]∧VR w ρ L v1 s∧VR w ρ L v2 x:=by
 simp only [VRs] at hv
 obtain ⟨s,us,e1,h1,x,us',rfl,h2,rfl⟩:=hv
 exact ⟨s,x,by apply Array.ext'; simpa using e1,h1,h2⟩
set_option maxHeartbeats 1000000 in
theorem zSc {o:Oper} {aop:AOp} {os:List Opd} {vs:List AV} {r:AV} {h':H} (hc:qO P o.type o.op=some (aop,os)) (he:xE X fr os=some vs) (hr:HR P X ρ h w) (hf:FR w ρ (Lv ρ h) fr a.tmps)
  (e:zS h aop vs=.val r h'):zG8 P X ρ h w (execOp a.eval o) r h':=by
 rcases xRd hc with hp | ⟨t,ad,x,ho⟩ | ⟨t,m,k,x,ho⟩ | ⟨it,s,ho⟩ | ⟨args,ts,ho⟩ | ⟨args,ts,ho⟩ | ⟨ty,x,ho,ha⟩ | ⟨it,ho⟩
 ·rcases xW1 hp e with ⟨b,h1,rfl⟩ | ⟨h1,rfl⟩
  ·exact xC3 hr (zAa hc he hr hf h1)
  ·exact xVw hr (zB0 hc he hr hf h1)
 ·
  rw [ho] at hc
  simp only [qO,Option.bind_eq_bind,Option.bind_eq_some_iff,Option.pure_def,Option.some.injEq,Prod.mk.injEq] at hc
  obtain ⟨n,hn,a1,ha,x1,hx,rfl,rfl⟩:=hc
  obtain ⟨v1,v2,rfl,e1,e2⟩:=ev2 he
  simp only [zS] at e
  cases hs:wW h (P.cellsOf t) v1 v2 with
  | none=>rw [hs] at e; cases e
  | some h1 =>
   rw [hs] at e
   simp only [ORes.val.injEq] at e
   obtain ⟨rfl,rfl⟩:=e
   obtain ⟨ad',w',g1,g2,g3,g4⟩:=zSd (P:=P) hr hn (zC hr hf ha e1) (zC hr hf hx e2) hs
   refine ⟨.skip,_,w',ρ,?_,.inr ⟨rfl,rfl⟩,g3,g4,xCp⟩
   simp only [execOp,ho,Instr.storeAt,g1,Instr.sureAddr,Sem.run_bind,Sem.run_pure,Result.andThen_ok,g2]
 ·
  have hc':qO P o.type (.mapUpdate t m k x)=some (aop,os):=by
   rcases ho with ho | ho<;>rw [ho] at hc<;>exact hc
  simp only [qO] at hc'
  split at hc'<;>first | (cases hc'; done) | skip
  rename_i kt et ht
  simp only [Option.bind_eq_bind,Option.bind_eq_some_iff,Option.pure_def,Option.some.injEq,Prod.mk.injEq] at hc'
  obtain ⟨kn,hkn,m1,hm,k1,hk,x1,hx,rfl,rfl⟩:=hc'
  obtain ⟨v1,v2,v3,rfl,e1,e2,e3⟩:=ev3 he
  simp only [zS] at e
  cases hs:rY h kn v1 v2 v3 with
  | none=>rw [hs] at e; cases e
  | some h1 =>
   rw [hs] at e
   simp only [ORes.val.injEq] at e
   obtain ⟨rfl,rfl⟩:=e
   obtain ⟨w',g2,g3,g4⟩:=zC1 (P:=P) hr ht hkn (zC hr hf hm e1) (zC hr hf hk e2) (zC hr hf hx e3) hs
   refine ⟨.skip,_,w',ρ,?_,.inr ⟨rfl,rfl⟩,g3,g4,xCp⟩
   rcases ho with ho | ho<;>simp only [execOp,ho,Sem.run_bind,Sem.run_pure,Result.andThen_ok,g2]
 ·
  rw [ho] at hc
  simp only [qO] at hc
  simp only [Option.bind_eq_bind,Option.bind_eq_some_iff,Option.pure_def,Option.some.injEq,Prod.mk.injEq] at hc
  obtain ⟨x1,hx,rfl,rfl⟩:=hc
  obtain ⟨v1,rfl,e1⟩:=ev1 he
  have hv:=zC hr hf hx e1
  have hp:∃ id,v1=.ptr id 0:=by
   rcases v1 with _ | _ | _ | _ | ⟨id,_ | _⟩
   case ptr.zero=>exact ⟨_,rfl⟩
   all_goals simp [zS,xO,xM] at e
  obtain ⟨id,rfl⟩:=hp
  simp only [zS] at e
  cases hg:h.t.get id with
  | none=>rw [hg] at e; cases e
  | some xb =>
   rw [hg] at e
   simp only [VR] at hv
   obtain ⟨b,hb,hv⟩:=hv
   cases s with
   | false =>
    cases xb<;>simp only [reduceCtorEq] at e
    rename_i m n k
    obtain ⟨v,w',g1,g2,g3,g4⟩:=zJ8 (P:=P) hr hb hg o.type e
    exact ⟨.value v,v,w',ρ,by simp only [execOp,ho,hv,Sem.run_bind,g1,Result.andThen_ok,Sem.run_pure],.inl rfl,g2,g3,g4⟩
   | true =>
    cases xb<;>simp only [reduceCtorEq] at e
    rename_i s pos
    have hn:=next_ok (P:=P) hr hb hg o.type
    cases hs:s[pos]? with
    | none =>
     rw [hs] at e hn
     simp only [ORes.val.injEq] at e hn
     obtain ⟨rfl,rfl⟩:=e
     refine ⟨.value (.tuple #[.bool false]),_,w,ρ,?_,.inl rfl,hr,Sim.refl ..,?_⟩
     ·simp only [execOp,ho,hv,Sem.run_bind,hn,Result.andThen_ok,Sem.run_pure]
     ·simp [VR,VRs]
    | some c =>
     rw [hs] at e hn
     simp only at e hn
     cases hl:Nat.blt c 128 with
     | false=>rw [hl] at e; cases e
     | true =>
      rw [hl] at e
      simp only [cond_true,ORes.val.injEq] at e
      obtain ⟨rfl,rfl⟩:=e
      obtain ⟨w',g1,g2,g3⟩:=hn (by simpa using hl)
      refine ⟨.value (.tuple #[.bool true,.int .i64 pos,.int .i32 c]),_,w',ρ,?_,.inl rfl,g2,g3,?_⟩
      ·simp only [execOp,ho,hv,Sem.run_bind,g1,Result.andThen_ok,Sem.run_pure]
      ·simp [VR,VRs]
 ·
  rw [ho] at hc
  simp only [qO,Option.bind_eq_bind,Option.bind_eq_some_iff,Option.pure_def] at hc
  obtain ⟨as1,has,hc⟩:=hc
  split at hc<;>first | (cases hc; done) | skip
  rename_i el ht0
  simp only [Option.bind_eq_some_iff] at hc
  obtain ⟨an,hn,z,hz,hc⟩:=hc
  split at hc<;>first | (cases hc; done) | skip
  rename_i hzl
  simp only [Option.bind_eq_some_iff,Option.some.injEq,Prod.mk.injEq] at hc
  obtain ⟨zr,hzr,rfl,rfl⟩:=hc
  simp only [Option.bind_eq_some_iff] at ht0
  obtain ⟨t,h0,ht⟩:=ht0
  have hv:=pH hr hf has he
  cases zr with
  | true=>rcases vs with _ | ⟨v1,_ | ⟨v2,_ | _⟩⟩<;>simp [zS,xO,xM] at e
  | false =>
   rcases vs with _ | ⟨v1,_ | ⟨v2,_ | _⟩⟩
   case cons.cons.nil =>
    obtain ⟨sv,xv,ha,h1,h2⟩:=two_args hv
    simp only [zS] at e
    cases hs:jD h (P.cellsOf el) (P.bytesOf el) v1 v2 with
    | none=>rw [hs] at e; cases e
    | some q =>
     obtain ⟨r1,h3⟩:=q
     rw [hs] at e
     simp only [ORes.val.injEq] at e
     obtain ⟨rfl,rfl⟩:=e
     obtain ⟨v,w',ρ',g1,g2,g3,g4⟩:=zBh (ty:=o.type) hr h0 ht hzr hn hz (by simpa using hzl) h1 h2 hs
     refine ⟨.value v,v,w',ρ',?_,.inl rfl,g2,g3,g4⟩
     rw [xA0 ho,ha]
     simp only [builtin,Sem.run_bind,g1,Result.andThen_ok,Sem.run_pure]
   all_goals simp [zS,xO,xM] at e
 ·
  rw [ho] at hc
  simp only [qO,Option.bind_eq_bind,Option.bind_eq_some_iff,Option.pure_def] at hc
  obtain ⟨as1,has,hc⟩:=hc
  split at hc<;>first | (cases hc; done) | skip
  rename_i el ht0
  simp only [Option.bind_eq_some_iff,Option.some.injEq,Prod.mk.injEq] at hc
  obtain ⟨an,hn,rfl,rfl⟩:=hc
  simp only [Option.bind_eq_some_iff] at ht0
  obtain ⟨t,h0,ht⟩:=ht0
  have hv:=pH hr hf has he
  obtain ⟨d,hd,_⟩:=kS hn
  rcases vs with _ | ⟨v1,_ | ⟨v2,_ | _⟩⟩
  case cons.cons.nil =>
   obtain ⟨sv,xv,ha,h1,h2⟩:=two_args hv
   simp only [zS] at e
   cases hs:xZb h (P.cellsOf el) v1 v2 with
   | none=>rw [hs] at e; cases e
   | some q =>
    obtain ⟨r1,h3⟩:=q
    rw [hs] at e
    simp only [ORes.val.injEq] at e
    obtain ⟨rfl,rfl⟩:=e
    obtain ⟨v,w',g1,g2,g3,g4⟩:=zXl (ty:=o.type) hr h0 ht hd h1 h2 hs
    refine ⟨.value v,v,w',ρ,?_,.inl rfl,g2,g3,g4⟩
    rw [xA0 ho,ha]
    simp only [builtin,Sem.run_bind,g1,Result.andThen_ok,Sem.run_pure]
  all_goals simp [zS,xO,xM] at e
 ·subst ha
  rw [ho] at hc
  simp only [qO,Option.bind_eq_bind,Option.pure_def] at hc
  split at hc
  ·simp only [Option.bind_eq_some_iff,Option.some.injEq,Prod.mk.injEq] at hc
   obtain ⟨_,_,h1,_⟩:=hc
   cases h1
  ·rename_i kt et ht
   simp only [Option.bind_eq_some_iff,Option.some.injEq,Prod.mk.injEq] at hc
   obtain ⟨x1,hx,_,rfl⟩:=hc
   obtain ⟨v1,rfl,e1⟩:=ev1 he
   have hv:=zC hr hf hx e1
   simp only [zS] at e
   cases v1<;>simp only [xNv,reduceCtorEq] at e
   case nilm =>
    simp only [ORes.val.injEq] at e
    obtain ⟨rfl,rfl⟩:=e
    simp only [VR] at hv
    refine xC3 hr ⟨.pointer (some ⟨w.heap.size,0,none⟩),.mapIter none 0 #[] 0,w.drawn,?_,fun ρ' L' w' _=>⟨_,_,_,rfl⟩,fun ρ' L' w' h1 _=>by simp only [VR]; exact ⟨_,h1,rfl⟩⟩
    simp only [execOp,ho,hv]
    refine wX ?_
    simp [Instr.range,run_underlying ht w,nK]
   case mapv id =>
    cases hg:h.t.get id with
    | none=>rw [hg] at e; cases e
    | some xb =>
    rw [hg] at e
    cases xb<;>simp only [reduceCtorEq] at e
    rename_i es
    simp only [ORes.val.injEq] at e
    obtain ⟨rfl,rfl⟩:=e
    simp only [VR] at hv
    obtain ⟨b,hb,hv⟩:=hv
    obtain ⟨b',ob,hb',hob,ms,clock,rfl,h1,h2,hwf⟩:=hr.live id _ hg
    cases hb.symm.trans hb'
    have hlen:ms.size=es.length:=by
     have:=h1.length
     simp only [List.length_map,Array.length_toList] at this
     omega
    refine xC3 hr ⟨.pointer (some ⟨w.heap.size,0,none⟩),.mapIter (some b) clock #[] clock,w.drawn,?_,fun ρ' L' w' hs => ?_,fun ρ' L' w' h1 _=>by simp only [VR]; exact ⟨_,h1,rfl⟩⟩
    ·simp only [execOp,ho,hv]
     refine wX ?_
     simp [Instr.range,run_underlying ht w,nK,getObj,Sem.run,hob]
    ·obtain ⟨ms',c',f1,f2,f3⟩:=(hs.cells b (hr.bound _ _ hb)).2 _ hob ms clock rfl
     refine ⟨b,clock,#[],ms',c',hs.names _ _ hb,rfl,f1,by omega,fun e9 => ?_⟩
     exact ⟨(f3 (by omega)).1,rfl,by simp,fun x hx=>by simp at hx⟩
  ·cases hc
 ·
  rw [ho] at hc
  simp only [qO,Option.bind_eq_bind,Option.bind_eq_some_iff,Option.pure_def,Option.some.injEq,Prod.mk.injEq] at hc
  obtain ⟨x1,hx,rfl,rfl⟩:=hc
  obtain ⟨v1,rfl,e1⟩:=ev1 he
  have hv:=zC hr hf hx e1
  have hp:∃ id,v1=.ptr id 0:=by
   rcases v1 with _ | _ | _ | _ | ⟨id,_ | _⟩
   case ptr.zero=>exact ⟨_,rfl⟩
   all_goals simp [zS,xO,xM] at e
  obtain ⟨id,rfl⟩:=hp
  simp only [zS] at e
  cases hg:h.t.get id with
  | none=>rw [hg] at e; cases e
  | some xb =>
   rw [hg] at e
   simp only [VR] at hv
   obtain ⟨b,hb,hv⟩:=hv
   cases xb<;>simp only [reduceCtorEq] at e
   rename_i m n k
   obtain ⟨v,g1,rfl,g2⟩:=zBr (P:=P) hr hb hg e
   exact ⟨.value v,v,w,ρ,by simp only [execOp,ho,hv,Sem.run_bind,g1,Result.andThen_ok,Sem.run_pure],.inl rfl,hr,Sim.refl ..,g2⟩
end
end Go.Abs
end
end
