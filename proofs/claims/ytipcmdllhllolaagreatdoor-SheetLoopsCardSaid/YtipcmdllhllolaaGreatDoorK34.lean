/- What holds of made types and of names, in plain terms. -/
import Derived.Test.YtipcmdllhllolaaGreatDoorK33
import Derived.Test.YtipcmdllhllolaaGreatDoorK31
noncomputable section
section
namespace Go.Abs.Sym
open Go.Abs.T
open Go.Proofs
def okM (s:Bs):Bool:=decide ((s, memF s)∈memT)&&decide (0<(memF s).length)&&decide ((memF s).length<1000)
theorem okM_1:∀ k, k<6→okM (nmOf k)=true∧memF (nmOf k)=[nmOf k]
 | 0, _=>⟨by decide, by decide⟩
 | 1, _=>⟨by decide, by decide⟩
 | 2, _=>⟨by decide, by decide⟩
 | 3, _=>⟨by decide, by decide⟩
 | 4, _=>⟨by decide, by decide⟩
 | 5, _=>⟨by decide, by decide⟩
 | k+6, h=>absurd h (by omega)
theorem okM_net:∀ k, k<9→okM (netN.getD k [])=true∧(memF (netN.getD k [])).length=1:=by decide
theorem okM_busN:∀ n∈busN, okM n=true∧(memF n).length=3:=by decide
theorem okM_busP:okM busP=true∧memF busP=[[68, 91, 48, 93], [68, 91, 49, 93], [68, 91, 50, 93]]:=by decide
theorem okM_edge:∀ k, k<3→okM (edgeN.getD k [])=true∧(memF (edgeN.getD k [])).length=2:=by decide
theorem okM_E:okM edgeB=true∧(memF edgeB).length=2:=by decide
theorem okM_I:okM inB=true∧(memF inB).length=1:=by decide
theorem okM_mem {s:Bs} (h:okM s=true):(s, memF s)∈memT∧0<(memF s).length∧(memF s).length<1000:=by
 simp only [okM, Bool.and_eq_true, decide_eq_true_eq] at h
 exact ⟨h.1.1, h.1.2, h.2⟩
structure TyF (T:TypD):Prop where
 nice:Nice T
 le:T.pads.l.length≤6
 pn:∀ p∈T.pads.l, okM p.nm=true∧memF p.nm=[p.nm]
 nd:(T.pads.l.map (·.nm)).Nodup
theorem padsOf_at:∀ (k:Nat) (cs:List (Nat×Nat×Nat)) (p:PadD), p∈padsOf k cs→∃ i, i<cs.length∧∃ c∈cs, p=padOf (k+i) c.1 c.2.1 c.2.2
 | _, [], p, h=>by cases h
 | k, c::cs, p, h=>by
  rcases List.mem_cons.1 h with rfl | h
  ·exact ⟨0, by simp, c, by simp, rfl⟩
  ·obtain ⟨i, h1, c', h2, h3⟩:=padsOf_at (k+1) cs p h
   exact ⟨i+1, by simp; omega, c', by simp [h2], by rw [h3]; congr 1; omega⟩
theorem padsOf_nms:∀ (k:Nat) (cs:List (Nat×Nat×Nat)), (padsOf k cs).map (·.nm)=(List.range' k cs.length).map nmOf
 | _, []=>rfl
 | k, c::cs=>by
  rw [List.length_cons, List.range'_succ, List.map_cons, ← padsOf_nms (k+1) cs]
  rfl
theorem nmOf_nd:∀ m, m≤6→((List.range' 0 m).map nmOf).Nodup
 | 0, _=>by decide
 | 1, _=>by decide
 | 2, _=>by decide
 | 3, _=>by decide
 | 4, _=>by decide
 | 5, _=>by decide
 | 6, _=>by decide
 | m+7, h=>absurd h (by omega)
theorem shE_len (a b:Int) (s:Nat):(shE a b s).length<90000:=by
 unfold shE
 split<;>simp 
theorem gok_facts {m:Nat} {gs:List GateD} (h:GOK m gs):gs.length<90000∧∀ g∈gs, g.legs.l≠[]∧g.legs.l.length<90000:=by
 rcases h with rfl | ⟨_, x, _, rfl⟩ | ⟨_, x, _, rfl⟩ | ⟨_, x, k, _, _, rfl⟩
 ·simp
 all_goals
  refine ⟨by simp [gs1, gs2, gs3], fun g hg => ?_⟩
  simp only [gs1, gs2, gs3, List.mem_cons, List.not_mem_nil, or_false] at hg
 ·subst hg; simp [lg2]
 ·rcases hg with rfl | rfl<;>simp [lg2]
 ·rcases hg with rfl | rfl | rfl<;>simp [lg2]
theorem tyF_of {nm:Bs} {cs:List (Nat×Nat×Nat)} {gs:List GateD} (h2:2≤cs.length) (h6:cs.length≤6) (hg:GOK cs.length gs):TyF (tyOf nm cs gs) where
 nice := {
  pads:=by show (padsOf 0 cs).length<90000; rw [len_padsOf]; omega
  gates:=(gok_facts hg).1
  es := fun p hp=>by
   obtain ⟨i, _, c, _, rfl⟩:=padsOf_at 0 cs p hp
   exact shE_len _ _ _
  legs:=fun g h=>((gok_facts hg).2 g h).2
  ne := fun p hp=>by
   obtain ⟨i, _, c, _, rfl⟩:=padsOf_at 0 cs p hp
   exact shE_ne _ _ _
  le:=fun g h=>((gok_facts hg).2 g h).1
  p0 := fun e=>by
   have:(padsOf 0 cs).length=0:=by rw [show padsOf 0 cs=[] from e]; rfl
   rw [len_padsOf] at this
   omega
  g0:=fun _=>rfl }
 le:=by show (padsOf 0 cs).length≤6; rw [len_padsOf]; exact h6
 pn := fun p hp=>by
  obtain ⟨i, hi, c, _, rfl⟩:=padsOf_at 0 cs p hp
  rw [Nat.zero_add]
  exact okM_1 i (by omega)
 nd := by
  show ((padsOf 0 cs).map (·.nm)).Nodup
  rw [padsOf_nms]
  exact nmOf_nd _ h6
theorem tyF_bus:TyF busT where
 nice:={
  pads:=by decide
  gates:=by decide
  es:=by decide
  legs:=by decide
  ne:=by decide
  le:=by decide
  p0:=by decide
  g0:=by decide }
 le:=by decide
 pn:=by decide
 nd:=by decide
theorem bus_find:∀ p∈memF busP, ∃ pd, findP busT p=some pd:=by
 intro p hp
 rw [okM_busP.2] at hp
 simp only [List.mem_cons, List.not_mem_nil, or_false] at hp
 rcases hp with rfl | rfl | rfl
 ·exact ⟨_, rfl⟩
 ·exact ⟨_, rfl⟩
 ·exact ⟨_, rfl⟩
theorem find_of {T:TypD} {nm:Bs} (h:nm∈T.pads.l.map (·.nm)):∃ pd, findP T nm=some pd:=by
 obtain ⟨p, hp, rfl⟩:=List.mem_map.1 h
 cases hf:findP T p.nm with
 | some x=>exact ⟨x, rfl⟩
 | none =>
  have:=List.find?_eq_none.1 hf p hp
  rw [eqS_dec] at this
  simp at this
end Go.Abs.Sym
end
section
namespace Go.Abs.Sym
open Go.Abs.T
open Go.Proofs
structure TsF (Ts:List TypD):Prop where
 f:∀ T∈Ts, TyF T
 bus:∀ T∈Ts, T.nm=busB→T=busT
 nd:(Ts.map (·.nm)).Nodup
theorem tsF_of {cs cs':List (Nat×Nat×Nat)} {gs gs':List GateD} (h2:2≤cs.length) (h6:cs.length≤6) (hg:GOK cs.length gs) (h2':2≤cs'.length) (h6':cs'.length≤6) (hg':GOK cs'.length gs'):TsF [tyOf [82] cs gs, tyOf [81] cs' gs', busT] where
 f := fun T hT=>by
  simp only [List.mem_cons, List.not_mem_nil, or_false] at hT
  rcases hT with rfl | rfl | rfl
  ·exact tyF_of h2 h6 hg
  ·exact tyF_of h2' h6' hg'
  ·exact tyF_bus
 bus:=fun T hT hn=>by
  simp only [List.mem_cons, List.not_mem_nil, or_false] at hT
  rcases hT with rfl | rfl | rfl
  ·exact absurd (show ([82]:Bs)=busB from hn) (by decide)
  ·exact absurd (show ([81]:Bs)=busB from hn) (by decide)
  ·rfl
 nd := by
  show [[82], [81], busB].Nodup
  decide
theorem z_len {va:Bool} {most:Nat} {Ts:List TypD} (hT:TsF Ts) {ref:Bs} {z:Zt} (hz:ZOkK va most Ts ref z):z.2.2.length≤6:=by
 obtain ⟨_, hm, _, _, hj, _⟩:=hz
 rcases hj with ⟨_, n, _, e⟩ | ⟨hs, _⟩
 ·rw [e]; exact (by decide:1≤6)
 ·have:=hs.length_le
  rw [List.length_map, List.length_map] at this
  have:=(hT.f _ hm).le
  omega
theorem z_ref {va:Bool} {most:Nat} {Ts:List TypD} {ref:Bs} {z:Zt} (hz:ZOkK va most Ts ref z):∀ j∈z.2.2, j.ref=ref:=by
 obtain ⟨_, hm, _, _, hj, _⟩:=hz
 rcases hj with ⟨_, n, _, e⟩ | ⟨_, hs⟩
 ·rw [e]; intro j hj; rw [List.mem_singleton.1 hj]
 ·exact fun j hj=>(hs j hj).1
theorem z_jn {va:Bool} {most:Nat} (hmost:most≤9) {Ts:List TypD} (hT:TsF Ts) {ref:Bs} {z:Zt} (hz:ZOkK va most Ts ref z) {tm:List (Bs×TypD)} (htm:tm.find? (fun a=>decide (ref=a.1))=some (ref, z.2.1)):∀ j∈z.2.2, JnOk tm j:=by
 intro j hj
 have hr:=z_ref hz j hj
 obtain ⟨_, hm, _, _, hjo, _⟩:=hz
 rcases hjo with ⟨hb, n, hn, e⟩ | ⟨hs, hs'⟩
 ·rw [e] at hj
  have ej:=List.mem_singleton.1 hj
  subst ej
  obtain ⟨o1, o2⟩:=okM_busN n hn
  obtain ⟨p1, p2⟩:=okM_busP
  have q1:=okM_mem o1
  have q2:=okM_mem p1
  refine ⟨q1.1, q2.1, fun e => ?_, q2.2.2, ?_, z.2.1, htm, (hT.f _ hm).nice, ?_⟩
  ·have:=q2.2.1
   rw [show memF busP=[] from e] at this
   exact absurd this (by decide)
  ·rw [o2]
   show 3=(memF busP).length
   rw [p2]
   rfl
  ·rw [hT.bus _ hm hb]
   exact bus_find
 ·obtain ⟨_, k, hk, hnet⟩:=hs' j hj
  obtain ⟨o1, o2⟩:=okM_net k (by omega)
  have hpm:j.pad∈z.2.1.pads.l.map (·.nm):=hs.subset (List.mem_map.2 ⟨j, hj, rfl⟩)
  obtain ⟨pd, hpd, hpn⟩:=List.mem_map.1 hpm
  obtain ⟨p1, p2⟩:=(hT.f _ hm).pn pd hpd
  rw [hpn] at p1 p2
  rw [← hnet] at o1 o2
  have q1:=okM_mem o1
  have q2:=okM_mem p1
  refine ⟨q1.1, q2.1, fun e => ?_, q2.2.2, ?_, z.2.1, by rw [hr]; exact htm, (hT.f _ hm).nice, ?_⟩
  ·have:=q2.2.1
   rw [e] at this
   exact absurd this (by decide)
  ·rw [o2, p2]; rfl
  ·rw [p2]
   intro p hp
   rw [List.mem_singleton.1 hp]
   exact find_of hpm
theorem z_pins {va:Bool} {most:Nat} {Ts:List TypD} (hT:TsF Ts) {ref:Bs} {z:Zt} (hz:ZOkK va most Ts ref z):(z.2.2.flatMap pinsJ).Nodup∧∀ p∈z.2.2.flatMap pinsJ, p.1=ref:=by
 have hr:=z_ref hz
 refine ⟨?_, fun p hp => ?_⟩
 ·obtain ⟨_, hm, _, _, hjo, _⟩:=hz
  rcases hjo with ⟨hb, n, hn, e⟩ | ⟨hs, _⟩
  ·rw [e]
   simp only [List.flatMap_cons, List.flatMap_nil, List.append_nil, pinsJ, okM_busP.2, List.map_cons, List.map_nil]
   simp
  ·have e:z.2.2.flatMap pinsJ=z.2.2.map fun j=>(ref, j.pad):=by
    rw [List.flatMap_def]
    have:z.2.2.map pinsJ=z.2.2.map fun j=>[(ref, j.pad)]:=List.map_congr_left fun j hj=>by
     have hpm:j.pad∈z.2.1.pads.l.map (·.nm):=hs.subset (List.mem_map.2 ⟨j, hj, rfl⟩)
     obtain ⟨pd, hpd, hpn⟩:=List.mem_map.1 hpm
     have p2:=((hT.f _ hm).pn pd hpd).2
     rw [hpn] at p2
     simp only [pinsJ, p2, hr j hj, List.map_cons, List.map_nil]
    rw [this, ← List.flatMap_def]
    induction z.2.2 with
    | nil=>rfl
    | cons a l ih=>simp only [List.flatMap_cons, List.map_cons, ih]; rfl
   rw [e]
   have h1:(z.2.2.map (·.pad)).Nodup:=(hT.f _ hm).nd.sublist hs
   have h2:z.2.2.map (fun j=>(ref, j.pad))=(z.2.2.map (·.pad)).map fun p=>(ref, p):=by rw [List.map_map]; rfl
   rw [h2]
   exact (List.pairwise_map.2 (h1.imp fun {a b} hab e=>hab (Prod.ext_iff.1 e).2))
 ·obtain ⟨j, hj, hp⟩:=List.mem_flatMap.1 hp
  obtain ⟨q, _, rfl⟩:=List.mem_map.1 hp
  exact hr j hj
def tmZ (zs:List Zt):List (Bs×TypD):=zs.map fun z=>(z.1.ref, z.2.1)
theorem refN_nd (i j:Nat) (hi:i<3) (hj:j<3):i≠j→refN.getD i []≠refN.getD j []:=(by decide:∀ i<3, ∀ j<3, i≠j→refN.getD i []≠refN.getD j []) i hi j hj
theorem zs_refs {va:Bool} {most:Nat} {Ts:List TypD} {zs:List Zt} (hz:ZsOkK va most Ts zs) (h3:zs.length≤3):zs.Pairwise fun a b=>a.1.ref≠b.1.ref:=by
 rw [List.pairwise_iff_getElem]
 intro i j hi hj hij
 have h1:=(hz i _ (List.getElem?_eq_getElem hi)).1
 have h2:=(hz j _ (List.getElem?_eq_getElem hj)).1
 rw [h1, h2]
 exact refN_nd i j (by omega) (by omega) (by omega)
theorem tm_find {zs:List Zt} (hp:zs.Pairwise fun a b=>a.1.ref≠b.1.ref) {z:Zt} (hz:z∈zs):(tmZ zs).find? (fun a=>decide (z.1.ref=a.1))=some (z.1.ref, z.2.1):=by
 induction zs with
 | nil=>cases hz
 | cons a l ih =>
  obtain ⟨h1, h2⟩:=List.pairwise_cons.1 hp
  rcases List.mem_cons.1 hz with rfl | hz
  ·simp [tmZ]
  ·have:z.1.ref≠a.1.ref:=fun e=>h1 z hz e.symm
   have:=ih h2 hz
   simp only [tmZ, List.map_cons, List.find?_cons] at this ⊢
   rw [decide_eq_false ‹z.1.ref≠a.1.ref›]
   exact this
theorem zs_joins {va:Bool} {most:Nat} (hmost:most≤9) {Ts:List TypD} (hT:TsF Ts) {zs:List Zt} (hz:ZsOkK va most Ts zs) (h3:zs.length≤3) :
  (zs.flatMap (·.2.2)).length≤18∧(∀ j∈zs.flatMap (·.2.2), JnOk (tmZ zs) j)∧((zs.flatMap (·.2.2)).flatMap pinsJ).Nodup:=by
 have hp:=zs_refs hz h3
 have hz':∀ z∈zs, ZOkK va most Ts z.1.ref z:=fun z hm=>by
  obtain ⟨k, hk⟩:=List.mem_iff_getElem?.1 hm
  have:=hz k z hk
  rw [← this.1] at this
  exact this
 refine ⟨?_, fun j hj => ?_, ?_⟩
 ·have : ∀ (l:List Zt), (∀ z∈l, z.2.2.length≤6)→(l.flatMap (·.2.2)).length≤6*l.length:=by
   intro l
   induction l with
   | nil=>intro _; simp
   | cons a l ih =>
    intro h
    have h1:=h a List.mem_cons_self
    have h2:=ih fun z hz=>h z (List.mem_cons_of_mem _ hz)
    rw [List.flatMap_cons, List.length_append, List.length_cons]
    omega
  have:=this zs fun z hm=>z_len hT (hz' z hm)
  omega
 ·obtain ⟨z, hm, hj⟩:=List.mem_flatMap.1 hj
  exact z_jn hmost hT (hz' z hm) (tm_find hp hm) j hj
 ·clear hz h3
  induction zs with
  | nil=>exact List.nodup_nil
  | cons a l ih =>
   obtain ⟨h1, h2⟩:=List.pairwise_cons.1 hp
   have ih:=ih h2 fun z hm=>hz' z (List.mem_cons_of_mem _ hm)
   rw [List.flatMap_cons, List.flatMap_append]
   obtain ⟨p1, p2⟩:=z_pins hT (hz' a List.mem_cons_self)
   refine List.nodup_append.2 ⟨p1, ih, fun x hx y hy e => ?_⟩
   subst e
   obtain ⟨j, hj, hy⟩:=List.mem_flatMap.1 hy
   obtain ⟨z, hm, hj⟩:=List.mem_flatMap.1 hj
   have e1:=p2 x hx
   have e2:=(z_pins hT (hz' z (List.mem_cons_of_mem _ hm))).2 x (List.mem_flatMap.2 ⟨j, hj, hy⟩)
   exact h1 z hm (e1.symm.trans e2)
end Go.Abs.Sym
end
end
