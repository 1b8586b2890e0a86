/- The rounds of LibReach, in plain terms. -/
import Derived.Test.YtgmgakdkheemkaaGreatDoorR01
import Derived.Test.YtgmgakdkheemkaaGreatDoorL45
section
namespace Go.Abs.Sym
open Go.Abs.T
def swOnto (m g : Nat) (r : List Nat) : Bool := (rngL m).any fun i => (rngL m).any fun j => (match swapR m g i j false with | some x => eqS x r | none => false) || (match swapR m g i j true with | some x => eqS x r | none => false)
theorem swOntoAll : vars.all (fun v => (swL v.1 v.2).all (swOnto v.1 v.2)) = true := by kernel_rfl
theorem rngL_mem {m i : Nat} (hm : m ≤ 6) (h : i ∈ rngL m) : i < m := by
  have h1 : ∀ m : Fin 7,∀ i ∈ rngL m.1,i < m.1 := by decide
  exact h1 ⟨m,by omega⟩ i h
section
variable {m g : Nat} (hv : (m,g) ∈ vars) (hm : m ≤ 6)
include hv hm
theorem sw_onto {r : List Nat} (h : r ∈ swL m g) : ∃ i j q,i < m ∧ j < m ∧ swapR m g i j q = some r := by
  have h1 := List.all_eq_true.1 (List.all_eq_true.1 swOntoAll _ hv) r h
  simp only [swOnto,List.any_eq_true,Bool.or_eq_true] at h1
  obtain ⟨i,hi,j,hj,h2 | h2⟩ := h1
  · cases h3 : swapR m g i j false with
    | none => rw [h3] at h2; cases h2
    | some x =>
      rw [h3] at h2
      exact ⟨i,j,false,rngL_mem hm hi,rngL_mem hm hj,by rw [h3,eqS_iff.1 h2]⟩
  · cases h3 : swapR m g i j true with
    | none => rw [h3] at h2; cases h2
    | some x =>
      rw [h3] at h2
      exact ⟨i,j,true,rngL_mem hm hi,rngL_mem hm hj,by rw [h3,eqS_iff.1 h2]⟩
theorem swap_mem {i j : Nat} (hi : i < m) (hj : j < m) {q : Bool} {l b : Ls} (h : swapF m g i j q l = some b) : ∃ r ∈ swL m g,b = r.map (nthS l) := by
  obtain ⟨r,hr,rfl⟩ := Option.map_eq_some_iff.1 h
  have h1 := List.all_eq_true.1 (List.all_eq_true.1 (List.all_eq_true.1 swAllIn _ hv) i (ixNm_rng hm hi).2) j (ixNm_rng hm hj).2
  have h2 : swIn m g (some r) = true := by
    rw [← hr]
    rw [Bool.and_eq_true] at h1
    cases q
    · exact h1.1
    · exact h1.2
  simp only [swIn,Bool.and_eq_true,List.any_eq_true,List.all_eq_true] at h2
  obtain ⟨⟨x,hx,e⟩,_⟩ := h2
  exact ⟨r,eqS_iff.1 e ▸ hx,rfl⟩
end
def Seen (i j k : Nat) (i' j' : Nat) (q : Bool) : Prop := i' < i ∨ (i' = i ∧ (j' < j ∨ (j' = j ∧ q.toNat < k)))
structure Rnd (m g : Nat) (T : TypD) (l0 now0 : Ls) (i j k : Nat) (now : Ls) (better : Bool) : Prop where
  len : now.length = m
  reach : Reach m g l0 now
  canon : canonS g now = canonS g l0
  no : better = false → now = now0 ∧ ∀ i' j' q,i' < m → j' < m → Seen i j k i' j' q → ∀ b,swapF m g i' j' q now0 = some b → lessF T b now0 = false
  yes : better = true → lessK g now now0
section
variable {m g : Nat} {T : TypD} {l0 now0 now : Ls} {i j k : Nat} {better : Bool}
theorem Rnd.weak {i2 j2 k2 : Nat} (h : Rnd m g T l0 now0 i j k now better) (hs : ∀ i' j' q,i' < m → j' < m → Seen i2 j2 k2 i' j' q → Seen i j k i' j' q) : Rnd m g T l0 now0 i2 j2 k2 now better :=
  ⟨h.len,h.reach,h.canon,fun e => ⟨(h.no e).1,fun i' j' q h1 h2 h3 => (h.no e).2 i' j' q h1 h2 (hs i' j' q h1 h2 h3)⟩,h.yes⟩
theorem Rnd.col (h : Rnd m g T l0 now0 i j 2 now better) : Rnd m g T l0 now0 i (j + 1) 0 now better := h.weak fun i' j' q _ _ h3 => by
  have : q.toNat < 2 := by cases q <;> decide
  unfold Seen at h3 ⊢
  omega
theorem Rnd.row (h : Rnd m g T l0 now0 i m 0 now better) : Rnd m g T l0 now0 (i + 1) 0 0 now better := h.weak fun i' j' q _ _ h3 => by
  unfold Seen at h3 ⊢
  omega
theorem Rnd.start (hl : now.length = m) (h1 : Reach m g l0 now) (h2 : canonS g now = canonS g l0) : Rnd m g T l0 now 0 0 0 now false :=
  ⟨hl,h1,h2,fun _ => ⟨rfl,fun i' j' q _ _ h => by unfold Seen at h; omega⟩,fun e => (by cases e)⟩
theorem toNat_eq {q q' : Bool} (h : q.toNat = q'.toNat) : q = q' := by cases q <;> cases q' <;> first | rfl | cases h
variable {q : Bool}
theorem Rnd.same (h : Rnd m g T l0 now0 i j q.toNat now better) (hn : ∀ b,swapF m g i j q now = some b → lessF T b now = false) : Rnd m g T l0 now0 i j (q.toNat + 1) now better :=
  ⟨h.len,h.reach,h.canon,fun e => ⟨(h.no e).1,fun i' j' q' h1 h2 h3 b hb => by
    obtain ⟨e1,h4⟩ := h.no e
    by_cases hs : Seen i j q.toNat i' j' q'
    · exact h4 i' j' q' h1 h2 hs b hb
    · have : i' = i ∧ j' = j ∧ q'.toNat = q.toNat := by
        unfold Seen at h3 hs
        omega
      obtain ⟨rfl,rfl,e2⟩ := this
      have e2 := toNat_eq e2
      subst e2
      rw [e1] at hn
      exact hn b hb⟩,h.yes⟩
theorem Rnd.step (hv : (m,g) ∈ vars) (hm : m ≤ 6) (hi : i < m) (hj : j < m) (hT : ∀ a b,lessF T a b = true ↔ lessK g a b) (h : Rnd m g T l0 now0 i j q.toNat now better) {b : Ls} (hb : swapF m g i j q now = some b) (hl : lessF T b now = true) :
    Rnd m g T l0 now0 i j (q.toNat + 1) b true := by
  obtain ⟨h1,h2,h3⟩ := swap_some hv hm hi hj h.len hb
  have hlt := (hT _ _).1 hl
  obtain ⟨r,hr,e⟩ := swap_mem hv hm hi hj hb
  refine ⟨h1,?_,?_,fun e => (by cases e),fun _ => ?_⟩
  · rw [e]; exact reach_step hv h.reach hr
  · rw [canonF_eq hv hm h1,canonF_eq hv hm h.len] at h3
    rw [h3,h.canon]
  · cases hbt : better with
    | false => rw [← (h.no hbt).1]; exact hlt
    | true => exact List.lt_trans hlt (h.yes hbt)
theorem Rnd.done (hv : (m,g) ∈ vars) (hm : m ≤ 6) (hT : ∀ a b,lessF T a b = true ↔ lessK g a b) (h : Rnd m g T l0 now0 m 0 0 now false) : now = canonS g l0 := by
  obtain ⟨rfl,h2⟩ := h.no rfl
  rw [← h.canon]
  refine (canon_fix hv h.len fun r hr hlt => ?_).symm
  obtain ⟨i,j,q,hi,hj,he⟩ := sw_onto hv hm hr
  have := h2 i j q hi hj (.inl hi) (r.map (nthS now)) (by rw [swapF,he]; rfl)
  rw [(hT _ _).2 hlt] at this
  cases this
end
theorem reach_self {m g : Nat} (hv : (m,g) ∈ vars) (hm : m ≤ 6) {l : Ls} (hl : l.length = m) : Reach m g l l := ⟨rngL m,(orb_ok hv).2.1,(nthS_rng hl hm).symm⟩
end Go.Abs.Sym
end
section
namespace Go.Abs.Sym
open Go.Abs.T
open Go.Proofs
section
variable (T : TypD) (cn : Ls)
def GA (fr : Tr AV) (t : Tr AB) (n : Nat) : Prop := fr.get t3 = some (.bool true) ∧ fr.get t7 = some (strsV cn) ∧ fr.get t8 = some (.bool true) ∧ fr.get t4 = some (.ptr (up Pth.e 1) 0) ∧ t.get (up Pth.e 1) = some (.cells [.str T.nm,slV padC T.pads,slV gateC T.gates] false) ∧ fr.get t10 = some (.int .i64 (.ofNat n))
def GB (fr : Tr AV) (t : Tr AB) (n i : Nat) : Prop := GA T cn fr t n ∧ fr.get t39 = some (slV padC T.pads) ∧ fr.get t40 = some (.int .i64 (.ofNat T.pads.l.length)) ∧ fr.get t41 = some (.int .i64 (.ofNat i))
def GC (fr : Tr AV) (t : Tr AB) (nx n i j pb : Nat) (p : PadD) : Prop := GB T cn fr t n i ∧ fr.get t46 = some (slV padC T.pads) ∧ fr.get t47 = some (.int .i64 (.ofNat T.pads.l.length)) ∧ fr.get t48 = some (.int .i64 (.ofNat j)) ∧ fr.get t13 = some (.ptr (up Pth.e pb) 0) ∧
  t.get (up Pth.e pb) = some (.cells (padC p) false) ∧ 1 < pb ∧ pb < nx
def GD (fr : Tr AV) (t : Tr AB) (nx n i j pb qb sb : Nat) (p q : PadD) (k : Nat) : Prop := GC T cn fr t nx n i j pb p ∧ fr.get t15 = some (.ptr (up Pth.e qb) 0) ∧ t.get (up Pth.e qb) = some (.cells (padC q) false) ∧
  (∃ c,fr.get t52 = some (.slc (up Pth.e sb) 0 2 1 c)) ∧ (∃ sp,t.get (up Pth.e sb) = some (.cells [.bool false,.bool true] sp)) ∧ fr.get t53 = some (.int .i64 (.ofNat 2)) ∧ fr.get t54 = some (.int .i64 (.ofNat k)) ∧ pb < qb ∧ qb < sb ∧ sb < nx
def NB (fr : Tr AV) (now : Ls) (better : Bool) : Prop := fr.get t9 = some (strsV now) ∧ fr.get t11 = some (.bool better)
abbrev stR (fr : Tr AV) (t : Tr AB) (nx : Nat) : St := ⟨fr,[],⟨up Pth.e nx,t,.lf⟩,.no,none,t5⟩
variable (m g : Nat) (l0 now0 : Ls)
def QD (nx n i j pb : Nat) (p : PadD) (o : Out) : Prop := ∃ fr t nx' now better,o = .exit 6 (stR fr t nx') ∧ nx ≤ nx' ∧ GC T cn fr t nx' n i j pb p ∧ NB fr now better ∧ Rnd m g T l0 now0 i j 2 now better
def QC (nx n i : Nat) (o : Out) : Prop := ∃ fr t nx' now better,o = .exit 4 (stR fr t nx') ∧ nx ≤ nx' ∧ GB T cn fr t n i ∧ NB fr now better ∧ Rnd m g T l0 now0 i m 0 now better
def QB (nx n : Nat) (o : Out) : Prop := ∃ fr t nx' now better,o = .exit 2 (stR fr t nx') ∧ nx ≤ nx' ∧ GA T cn fr t n ∧ NB fr now better ∧ Rnd m g T l0 now0 m 0 0 now better
def QA (o : Out) : Prop := ∃ fr t nx',o = .exit 0 (stR fr t nx') ∧ fr.get t3 = some (.bool true) ∧ fr.get t7 = some (strsV cn) ∧ fr.get t8 = some (.bool true) ∧ fr.get t9 = some (strsV (canonS g l0))
variable {T cn m g l0 now0}
variable {X : Ctx} {call : CallF} (hfu : X.fuel = 100000) (hv : (m,g) ∈ vars) (hm : m ≤ 6) (hT : ∀ a b,lessF T a b = true ↔ lessK g a b)
  (hpl : T.pads.l.length = m) (hpn : ∀ i p,T.pads.l[i]? = some p → p.nm = nmOf i)
  (c9 : ∀ i j q x,i < m → j < m → x.length = m → ∀ h,call (.fn t9 [] []) [.agg [.str T.nm,slV padC T.pads,slV gateC T.gates],strsV x,.agg [.str [],.str (nmOf i),.str (nmOf j),.bool q]] h = .ret (swpV (swapF m g i j q x)) h)
  (c13 : ∀ x y,x.length = m → y.length = m → ∀ h,call (.fn t13 [] []) [strsV x,strsV y,.agg [.str T.nm,slV padC T.pads,slV gateC T.gates]] h = .ret (.bool (lessF T x y)) h)
theorem ix2 (id : Pth) (c : Option Nat) (q : Bool) : indexAddrA (.slc 1) (.slc id 0 2 1 c) (.int .i64 (.ofNat q.toNat)) = some (.ptr id q.toNat) := by cases q <;> rfl
theorem ld2 (h : H) (id : Pth) (q : Bool) (sp : Bool) (e : h.t.get id = some (.cells [.bool false,.bool true] sp)) : loadA h none (.ptr id q.toNat) = some (.bool q) := by
  cases q <;> simp only [loadA,H.cellsAt,e] <;> rfl
include hv hm hT hpn c9 c13 in
set_option maxHeartbeats 4000000 in
theorem reach_l0 {fr : Tr AV} {t : Tr AB} {nx n i j pb qb sb : Nat} {p q : PadD} {now : Ls} {better : Bool} (hi : i < m) (hj : j < m) (hp : T.pads.l[i]? = some p) (hq : T.pads.l[j]? = some q) (h : GD T cn fr t nx n i j pb qb sb p q 0) (hn : NB fr now better) (hr : Rnd m g T l0 now0 i j 0 now better) :
    QD T cn m g l0 now0 nx n i j pb p (iterA (execA X call c5_l0) 100000 (stR fr t nx)) := by
  refine iter_rule (fun z s => ∃ fr t nx' k now better,s = stR fr t nx' ∧ nx ≤ nx' ∧ k + z = 2 ∧ GD T cn fr t nx' n i j pb qb sb p q k ∧ NB fr now better ∧ Rnd m g T l0 now0 i j k now better) (QD T cn m g l0 now0 nx n i j pb p) ?_ 100000 2 _ ⟨fr,t,nx,0,now,better,rfl,Nat.le_refl _,by omega,h,hn,hr⟩ (by omega)
  rintro z s ⟨fr,t,nx',k,now,better,rfl,hnx,hk,⟨⟨⟨⟨g3,g7,g8,g4,gt,g10⟩,g39,g40,g41⟩,g46,g47,g48,g13,gp,hpb,hpx⟩,g15,gq,⟨c,g52⟩,⟨sp,gs⟩,g53,g54,k1,k2,k3⟩,⟨g9,g11⟩,hr⟩
  cases z with
  | zero =>
    obtain rfl : k = 2 := by omega
    have hkn : ltI (.ofNat 2) (.ofNat 2) = false := rfl
    simp +decide only [c5_l0,execA,opsA,wantedA,evalAll,evalA,oneA,st_bin,binAV,St.put,Tr.get_put,if_true,cond_true,nbeq,decide_true,eqK,kindNo,g53,g54,hkn,stp_e]
    refine ⟨_,_,_,now,better,rfl,hnx,⟨⟨⟨?_,?_,?_,?_,gt,?_⟩,?_,?_,?_⟩,?_,?_,?_,?_,gp,hpb,hpx⟩,⟨?_,?_⟩,hr⟩
    all_goals simp +decide only [Tr.get_put,g3,g7,g8,g4,g10,g39,g40,g41,g46,g47,g48,g13,g9,g11,if_false]
  | succ z =>
    obtain ⟨gate,rfl⟩ : ∃ gate : Bool,k = gate.toNat := by
      have : k = 0 ∨ k = 1 := by omega
      rcases this with rfl | rfl
      · exact ⟨false,rfl⟩
      · exact ⟨true,rfl⟩
    have hkn : ltI (.ofNat gate.toNat) (.ofNat 2) = true := by cases gate <;> rfl
    have hw : wrapA .i64 (Int.ofNat gate.toNat + Int.ofNat 1) = Int.ofNat (gate.toNat + 1) := by cases gate <;> rfl
    have hx := ix2 (up Pth.e sb) c gate
    have e1 : p.nm = nmOf i := hpn i p hp
    have e2 : q.nm = nmOf j := hpn j q hq
    simp only [padC] at gp gq
    have hc := c9 i j gate now hi hj hr.len
    have gl : ∀ nx t',t'.get (up Pth.e sb) = some (.cells [.bool false,.bool true] sp) → loadA ⟨nx,t',.lf⟩ none (.ptr (up Pth.e sb) gate.toNat) = some (.bool gate) := fun nx t' e => ld2 ⟨nx,t',.lf⟩ _ gate sp e
    have gl0 := gl (up Pth.e nx') t gs
    have z0 : eqI (.ofNat 27) (.ofNat 0) = false := rfl
    have z1 : eqI (.ofNat 0) (.ofNat 0) = true := rfl
    cases hsf : swapF m g i j gate now with
    | none =>
      rw [hsf] at hc
      simp only [swpV] at hc
      simp +decide only [c5_l0,execA,opsA,wantedA,evalAll,evalA,oneA,st_mov,st_load,st_bin,st_call,st_fieldAddr,st_indexAddr,st_build,st_extract,st_pick,ld_ptr,H.cellsAt,partA,tk_0,tk_c,setAt,fillA,cl_bool,cl_str,binAV,eqAV,St.put,Tr.get_put,if_true,if_false,cond_true,cond_false,Nat.zero_add,Nat.add_zero,List.length,nbeq,nble,decide_true,Nat.reduceAdd,eqK,kindNo,Option.map_some,beq_t,Bool.and_self,ex_0,ex_1,g53,g54,hkn,g52,hx,gl0,g4,gt,g9,g13,gp,g15,gq,e1,e2,hc,z0,hw,stp_n]
      refine ⟨z,by omega,_,_,nx',gate.toNat + 1,now,better,rfl,hnx,by omega,⟨⟨⟨⟨?_,?_,?_,?_,gt,?_⟩,?_,?_,?_⟩,?_,?_,?_,?_,?_,hpb,hpx⟩,?_,?_,⟨c,?_⟩,⟨sp,gs⟩,?_,?_,k1,k2,k3⟩,⟨?_,?_⟩,hr.same fun b hb => by rw [hsf] at hb; cases hb⟩
      all_goals simp +decide only [Tr.get_put,padC,g3,g7,g8,g4,g10,g39,g40,g41,g46,g47,g48,g13,gp,g15,gq,g52,g53,g54,g9,g11,if_true,if_false]
    | some b =>
      rw [hsf] at hc
      simp only [swpV] at hc
      obtain ⟨hb,_,_⟩ := swap_some hv hm hi hj hr.len hsf
      have hc2 := c13 b now hb hr.len
      cases hlt : lessF T b now with
      | false =>
        rw [hlt] at hc2
        simp +decide only [c5_l0,execA,opsA,wantedA,evalAll,evalA,oneA,st_mov,st_load,st_bin,st_call,st_fieldAddr,st_indexAddr,st_build,st_extract,st_pick,ld_ptr,H.cellsAt,partA,tk_0,tk_c,setAt,fillA,cl_bool,cl_str,binAV,eqAV,St.put,Tr.get_put,if_true,if_false,cond_true,Nat.zero_add,Nat.add_zero,List.length,nbeq,nble,decide_true,Nat.reduceAdd,eqK,kindNo,Option.map_some,beq_self_eq_true,Bool.and_self,ex_0,ex_1,g53,g54,hkn,g52,hx,gl0,g4,gt,g9,g13,gp,g15,gq,e1,e2,hc,hc2,z1,hw,stp_n]
        refine ⟨z,by omega,_,_,nx',gate.toNat + 1,now,better,rfl,hnx,by omega,⟨⟨⟨⟨?_,?_,?_,?_,gt,?_⟩,?_,?_,?_⟩,?_,?_,?_,?_,?_,hpb,hpx⟩,?_,?_,⟨c,?_⟩,⟨sp,gs⟩,?_,?_,k1,k2,k3⟩,⟨?_,?_⟩,hr.same fun b' hb' => by rw [hsf] at hb'; cases hb'; exact hlt⟩
        all_goals simp +decide only [Tr.get_put,padC,g3,g7,g8,g4,g10,g39,g40,g41,g46,g47,g48,g13,gp,g15,gq,g52,g53,g54,g9,g11,if_true,if_false]
      | true =>
        rw [hlt] at hc2
        simp +decide only [c5_l0,execA,opsA,wantedA,evalAll,evalA,oneA,st_mov,st_load,st_bin,st_call,st_fieldAddr,st_indexAddr,st_build,st_extract,st_pick,ld_ptr,H.cellsAt,partA,tk_0,tk_c,setAt,fillA,cl_bool,cl_str,binAV,eqAV,St.put,Tr.get_put,if_true,if_false,cond_true,Nat.zero_add,Nat.add_zero,List.length,nbeq,nble,decide_true,Nat.reduceAdd,eqK,kindNo,Option.map_some,beq_self_eq_true,Bool.and_self,ex_0,ex_1,g53,g54,hkn,g52,hx,gl0,g4,gt,g9,g13,gp,g15,gq,e1,e2,hc,hc2,z1,hw,stp_n]
        refine ⟨z,by omega,_,_,nx',gate.toNat + 1,b,true,rfl,hnx,by omega,⟨⟨⟨⟨?_,?_,?_,?_,gt,?_⟩,?_,?_,?_⟩,?_,?_,?_,?_,?_,hpb,hpx⟩,?_,?_,⟨c,?_⟩,⟨sp,gs⟩,?_,?_,k1,k2,k3⟩,⟨?_,?_⟩,hr.step hv hm hi hj hT hsf hlt⟩
        all_goals simp +decide only [Tr.get_put,padC,g3,g7,g8,g4,g10,g39,g40,g41,g46,g47,g48,g13,gp,g15,gq,g52,g53,g54,g9,g11,if_true,if_false]
include hfu hv hm hT hpl hpn c9 c13 in
set_option maxHeartbeats 4000000 in
theorem reach_l1 {fr : Tr AV} {t : Tr AB} {nx n i pb : Nat} {p : PadD} {now : Ls} {better : Bool} (hi : i < m) (hp : T.pads.l[i]? = some p) (h : GC T cn fr t nx n i 0 pb p) (hn : NB fr now better) (hr : Rnd m g T l0 now0 i 0 0 now better) :
    QC T cn m g l0 now0 nx n i (iterA (execA X call c5_l1) 100000 (stR fr t nx)) := by
  refine iter_rule (fun z s => ∃ fr t nx' k now better,s = stR fr t nx' ∧ nx ≤ nx' ∧ k + z = m ∧ GC T cn fr t nx' n i k pb p ∧ NB fr now better ∧ Rnd m g T l0 now0 i k 0 now better) (QC T cn m g l0 now0 nx n i) ?_ 100000 m _ ⟨fr,t,nx,0,now,better,rfl,Nat.le_refl _,by omega,h,hn,hr⟩ (by omega)
  rintro z s ⟨fr,t,nx',k,now,better,rfl,hnx,hk,⟨⟨⟨g3,g7,g8,g4,gt,g10⟩,g39,g40,g41⟩,g46,g47,g48,g13,gp,hpb,hpx⟩,⟨g9,g11⟩,hr⟩
  rw [hpl] at g47
  cases z with
  | zero =>
    obtain rfl : k = m := by omega
    have hkn : (k < k) = False := eq_false (by omega)
    simp +decide only [c5_l1,execA,opsA,wantedA,evalAll,evalA,oneA,st_bin,binAV,St.put,Tr.get_put,if_true,cond_true,nbeq,decide_true,decide_false,eqK,kindNo,g47,g48,ltI_dec,hkn,stp_e]
    refine ⟨_,_,_,now,better,rfl,hnx,⟨⟨?_,?_,?_,?_,gt,?_⟩,?_,?_,?_⟩,⟨?_,?_⟩,hr⟩
    all_goals simp +decide only [Tr.get_put,g3,g7,g8,g4,g10,g39,g40,g41,g9,g11,if_false]
  | succ z =>
    have hkn : (k < m) = True := eq_true (by omega)
    obtain ⟨q,hq⟩ : ∃ x,T.pads.l[k]? = some x := ⟨_,List.getElem?_eq_getElem (by omega)⟩
    have ip := at_slV (f := padC) (sz := 7) len_pad (by decide) hq
    have hw := wr_add k 1 (by omega)
    have d1 : ¬ (1 : Nat) = nx' := by omega
    have d2 : ¬ nx' = 1 := by omega
    have d3 : ¬ pb = nx' := by omega
    have d4 : ¬ nx' = pb := by omega
    have d5 : ¬ (1 : Nat) = nx' + 1 := by omega
    have d6 : ¬ nx' + 1 = 1 := by omega
    have d7 : ¬ pb = nx' + 1 := by omega
    have d8 : ¬ nx' + 1 = pb := by omega
    have d10 : ¬ nx' = nx' + 1 := by omega
    have d11 : ¬ nx' + 1 = nx' := by omega
    have d9 : ¬ nx' = 0 := by omega
    simp +decide only [c5_l1,execA,opsA,wantedA,evalAll,evalA,oneA,st_mov,st_alloc,st_load,st_store,st_bin,st_indexAddr,st_len,st_buildSl,ld_rs,H.newB,tk_0,tk_c,storeA,setAt,fillS,ones,cl_agg,cl_bool,on_int,on_str,on_slV,ln_slc,binAV,St.put,Tr.get_put,List.nil_append,List.cons_append,if_true,if_false,cond_true,Nat.zero_add,Nat.zero_mul,Nat.one_mul,up_succ,List.length,nbeq,nble,decide_true,Nat.reduceAdd,eqK,kindNo,Option.map_some,Bool.and_self,Nat.add_assoc,padC,g47,g48,ltI_dec,hkn,g46,ip,hfu]
    generalize hit : iterA (execA X call c5_l0) 100000 _ = o
    have hqd : QD T cn m g l0 now0 (nx' + 1 + 1) n i k pb p o := by
      rw [← hit]
      refine reach_l0 hv hm hT hpn c9 c13 (qb := nx') (sb := nx' + 1) hi (by omega) hp hq ⟨⟨⟨⟨?_,?_,?_,?_,?_,?_⟩,?_,?_,?_⟩,?_,?_,?_,?_,?_,hpb,by omega⟩,?_,?_,⟨some 2,?_⟩,⟨false,?_⟩,?_,?_,by omega,by omega,by omega⟩ (now := now) (better := better) ⟨?_,?_⟩ hr
      all_goals try (simp +decide only [Tr.get_put,padC,g3,g7,g8,g4,gt,g10,g39,g40,g41,g46,g47,g48,g13,gp,g9,g11,hpl,up_inj,d1,d3,d5,d7,d10,d11,if_true,if_false]; done)
      all_goals rfl
    obtain ⟨fr,t,nx2,now,better,rfl,h5,⟨⟨⟨g3,g7,g8,g4,gt,g10⟩,g39,g40,g41⟩,g46,g47,g48,g13,gp,_,hpx⟩,⟨g9,g11⟩,hr⟩ := hqd
    simp +decide only [st_mov,st_bin,binAV,Tr.get_put,if_true,cond_true,nbeq,decide_true,eqK,kindNo,g48,hw,stp_n]
    refine ⟨z,by omega,_,_,nx2,k + 1,now,better,rfl,by omega,by omega,⟨⟨⟨?_,?_,?_,?_,gt,?_⟩,?_,?_,?_⟩,?_,?_,?_,?_,gp,hpb,hpx⟩,⟨?_,?_⟩,hr.col⟩
    all_goals simp +decide only [Tr.get_put,g3,g7,g8,g4,g10,g39,g40,g41,g46,g47,g48,g13,g9,g11,if_true,if_false]
include hfu hv hm hT hpl hpn c9 c13 in
set_option maxHeartbeats 4000000 in
theorem reach_l2 {fr : Tr AV} {t : Tr AB} {nx n : Nat} {now : Ls} {better : Bool} (h1n : 1 < nx) (h : GB T cn fr t n 0) (hn : NB fr now better) (hr : Rnd m g T l0 now0 0 0 0 now better) :
    QB T cn m g l0 now0 nx n (iterA (execA X call c5_l2) 100000 (stR fr t nx)) := by
  refine iter_rule (fun z s => ∃ fr t nx' k now better,s = stR fr t nx' ∧ nx ≤ nx' ∧ k + z = m ∧ GB T cn fr t n k ∧ NB fr now better ∧ Rnd m g T l0 now0 k 0 0 now better) (QB T cn m g l0 now0 nx n) ?_ 100000 m _ ⟨fr,t,nx,0,now,better,rfl,Nat.le_refl _,by omega,h,hn,hr⟩ (by omega)
  rintro z s ⟨fr,t,nx',k,now,better,rfl,hnx,hk,⟨⟨g3,g7,g8,g4,gt,g10⟩,g39,g40,g41⟩,⟨g9,g11⟩,hr⟩
  rw [hpl] at g40
  cases z with
  | zero =>
    obtain rfl : k = m := by omega
    have hkn : (k < k) = False := eq_false (by omega)
    simp +decide only [c5_l2,execA,opsA,wantedA,evalAll,evalA,oneA,st_bin,binAV,St.put,Tr.get_put,if_true,cond_true,nbeq,decide_true,decide_false,eqK,kindNo,g40,g41,ltI_dec,hkn,stp_e]
    refine ⟨_,_,_,now,better,rfl,hnx,⟨?_,?_,?_,?_,gt,?_⟩,⟨?_,?_⟩,hr⟩
    all_goals simp +decide only [Tr.get_put,g3,g7,g8,g4,g10,g9,g11,if_false]
  | succ z =>
    have hkn : (k < m) = True := eq_true (by omega)
    obtain ⟨p,hp⟩ : ∃ x,T.pads.l[k]? = some x := ⟨_,List.getElem?_eq_getElem (by omega)⟩
    have ip := at_slV (f := padC) (sz := 7) len_pad (by decide) hp
    have hw := wr_add k 1 (by omega)
    have d1 : ¬ (1 : Nat) = nx' := by omega
    have d2 : ¬ nx' = 1 := by omega
    have d9 : ¬ nx' = 0 := by omega
    simp +decide only [c5_l2,execA,opsA,wantedA,evalAll,evalA,oneA,st_mov,st_alloc,st_load,st_store,st_bin,st_fieldAddr,st_indexAddr,st_len,ld_ptr,ld_rs,H.cellsAt,H.newB,partA,tk_s,tk_0,tk_c,storeA,setAt,ones,cl_agg,on_int,on_str,on_slV,binAV,St.put,Tr.get_put,List.nil_append,List.cons_append,if_true,if_false,cond_true,Nat.zero_add,up_succ,up_inj,List.length,nbeq,decide_true,Nat.reduceAdd,eqK,kindNo,Option.map_some,Bool.and_self,padC,len_slV,g40,g41,ltI_dec,hkn,g39,g4,gt,ip,d1,hfu]
    generalize hit : iterA (execA X call c5_l1) 100000 _ = o
    have hqd : QC T cn m g l0 now0 (nx' + 1) n k o := by
      rw [← hit]
      refine reach_l1 hfu hv hm hT hpl hpn c9 c13 (pb := nx') (p := p) (by omega) hp ⟨⟨⟨?_,?_,?_,?_,?_,?_⟩,?_,?_,?_⟩,?_,?_,?_,?_,?_,by omega,by omega⟩ (now := now) (better := better) ⟨?_,?_⟩ hr
      all_goals simp +decide only [Tr.get_put,padC,g3,g7,g8,g4,gt,g10,g39,g40,g41,g9,g11,hpl,up_inj,d1,if_true,if_false]
    obtain ⟨fr,t,nx2,now,better,rfl,h5,⟨⟨g3,g7,g8,g4,gt,g10⟩,g39,g40,g41⟩,⟨g9,g11⟩,hr⟩ := hqd
    simp +decide only [st_mov,st_bin,binAV,Tr.get_put,if_true,cond_true,nbeq,decide_true,eqK,kindNo,g41,hw,stp_n]
    refine ⟨z,by omega,_,_,nx2,k + 1,now,better,rfl,by omega,by omega,⟨⟨?_,?_,?_,?_,gt,?_⟩,?_,?_,?_⟩,⟨?_,?_⟩,hr.row⟩
    all_goals simp +decide only [Tr.get_put,g3,g7,g8,g4,g10,g39,g40,g41,g9,g11,if_true,if_false]
include hfu hv hm hT hpl hpn c9 c13 in
set_option maxHeartbeats 4000000 in
theorem reach_l3 {fr : Tr AV} {t : Tr AB} {nx : Nat} (h1n : 1 < nx) (h : GA T cn fr t 0) (hn : fr.get t9 = some (strsV l0)) (hl : l0.length = m) :
    QA cn g l0 (iterA (execA X call c5_l3) 100000 (stR fr t nx)) := by
  refine iter_rule (fun z s => ∃ fr t nx' n now,s = stR fr t nx' ∧ 1 < nx' ∧ n + z ≤ 48 ∧ rank m g l0 now ≤ z ∧ GA T cn fr t n ∧ fr.get t9 = some (strsV now) ∧ now.length = m ∧ Reach m g l0 now ∧ canonS g now = canonS g l0) (QA cn g l0) ?_ 100000 48 _ ⟨fr,t,nx,0,l0,rfl,h1n,by omega,rank_le hv _ _,h,hn,hl,reach_self hv hm hl,rfl⟩ (by omega)
  rintro z s ⟨fr,t,nx',n,now,rfl,hnx,hnz,hrk,⟨g3,g7,g8,g4,gt,g10⟩,g9,hlen,hre,hca⟩
  have hkn : (n < 100) = True := eq_true (by omega)
  have hw := wr_add n 1 (by omega)
  have d1 : ¬ (1 : Nat) = nx' := by omega
  have d2 : ¬ nx' = 1 := by omega
  have d9 : ¬ nx' = 0 := by omega
  simp +decide only [c5_l3,execA,opsA,wantedA,evalAll,evalA,oneA,st_mov,st_load,st_bin,st_fieldAddr,st_len,ld_ptr,H.cellsAt,partA,tk_s,tk_0,tk_c,binAV,St.put,Tr.get_put,if_true,if_false,cond_true,Nat.zero_add,nbeq,decide_true,eqK,kindNo,Option.map_some,len_slV,g10,ltI_dec,hkn,g4,gt,hfu]
  generalize hit : iterA (execA X call c5_l2) 100000 _ = o
  have hqd : QB T cn m g l0 now nx' n o := by
    rw [← hit]
    refine reach_l2 hfu hv hm hT hpl hpn c9 c13 hnx ⟨⟨?_,?_,?_,?_,gt,?_⟩,?_,?_,?_⟩ (now := now) (better := false) ⟨?_,?_⟩ (Rnd.start hlen hre hca)
    all_goals simp +decide only [Tr.get_put,g3,g7,g8,g4,g10,g9,hpl,if_true,if_false]
  obtain ⟨fr,t,nx2,now',better,rfl,h5,⟨g3,g7,g8,g4,gt,g10⟩,⟨g9,g11⟩,hr⟩ := hqd
  cases better with
  | false =>
    simp +decide only [st_mov,st_not,Tr.get_put,if_true,if_false,cond_true,cond_false,decide_true,decide_false,Bool.not_false,g11,stp_e]
    refine ⟨_,_,_,rfl,?_,?_,?_,?_⟩
    all_goals simp +decide only [Tr.get_put,g3,g7,g8,g9,hr.done hv hm hT,if_false]
  | true =>
    have hlt := rank_lt hr.reach (hr.yes rfl)
    simp +decide only [st_mov,st_bin,st_not,binAV,Tr.get_put,if_true,if_false,cond_true,nbeq,decide_true,Bool.not_true,eqK,kindNo,g11,g10,hw,stp_n]
    refine ⟨z - 1,by omega,_,_,nx2,n + 1,now',rfl,by omega,by omega,by omega,⟨?_,?_,?_,?_,gt,?_⟩,?_,hr.len,hr.reach,hr.canon⟩
    all_goals simp +decide only [Tr.get_put,g3,g7,g8,g4,g10,g9,if_true,if_false]
end
section
variable {m g : Nat} {T : TypD}
def KV (m g : Nat) (T : TypD) : Ctx := over (KU m g T) [t13] []
theorem kv_rest (f : Pth) (h1 : Pth.beq f t13 = false) (xs : List AV) (h : H) : (KV m g T).sums f xs h = (KU m g T).sums f xs h := by
  simp only [KV,over,sumsOf,memP,h1,Bool.or_self,cond_false]
theorem kv_13 (hl : T.pads.l.length < 90000) (hgl : T.gates.l.length < 90000) (hls : ∀ g ∈ T.gates.l,g.legs.l.length < 90000) {a b : Ls} (ha : a.length = T.pads.l.length) (hb : b.length = T.pads.l.length) (h : H) :
    (KV m g T).sums t13 [strsV a,strsV b,.agg (tyC T)] h = some (.bool (lessF T a b)) := by
  obtain ⟨v,h1,hcall,hv⟩ := less13 (X := KU m g T) (n := 49) rfl hl ha hb (by rw [ku_rest m g T t13 rfl,kt_rest m g T t13 rfl rfl]; rfl) rfl hgl hls
  rw [hv] at hcall
  exact over_fz' rfl hcall (by simp only [strsV_eq,frzs,frz,frz_ty,frz_slV frz_str,Bool.and_self]) rfl h
end
theorem gs_short : ∀ v ∈ vars,(gsOf v.2).length < 90000 ∧ ∀ g ∈ gsOf v.2,g.legs.l.length < 90000 := by decide
set_option maxHeartbeats 4000000 in
set_option maxRecDepth 10000 in
theorem law_reach (c : CaseD) (hc : CaseOK c) : ∃ X : Ctx,@Lev triv X ∧ X.sums t5 [.agg (caseC c)] h0 = none ∧ X.funcs.get t5 = some T.c5 ∧ Ret (callN X 60 (.fn t5 [] []) [.agg (caseC c)] h0) (fun v _ => v = .bool true) := by
  obtain ⟨cs,gs,n1,n2,k2,k6,hcs,hgs,f1,f2,f3,f4,hmade⟩ := made7_sum c hc
  obtain ⟨g,hg,rfl⟩ := vars_of k2 k6 hgs
  have hne : cs ≠ [] := by
    intro e
    rw [e] at k2
    exact absurd k2 (by decide)
  have hlT : (tyOf [112,97,114,116] cs (gsOf g)).pads.l.length = cs.length := len_padsOf 0 cs
  have hlev := levKT hcs k6 hg hne
  have hLF := fun a b => lessF_iff hg k6 [112,97,114,116] a b
  have hpn : ∀ i p,(tyOf [112,97,114,116] cs (gsOf g)).pads.l[i]? = some p → p.nm = nmOf i := fun i p hp => by
    have := (padsOf_get 0 cs i p hp).2
    rwa [Nat.zero_add] at this
  have hsh : (tyOf [112,97,114,116] cs (gsOf g)).gates.l.length < 90000 ∧ ∀ x ∈ (tyOf [112,97,114,116] cs (gsOf g)).gates.l,x.legs.l.length < 90000 := gs_short _ hg
  generalize hT : tyOf [112,97,114,116] cs (gsOf g) = T at hmade hlev hlT hLF hpn hsh
  generalize hM : cs.length = m at *
  have hl : (n1.map net5).length = m := by rw [List.length_map]; exact f1
  generalize n1.map net5 = l at *
  generalize n2.map net5 = l2 at *
  have hX : ∀ f xs h,Pth.beq f t13 = false → Pth.beq f t12 = false → Pth.beq f t10 = false → Pth.beq f t9 = false → (KV m g T).sums f xs h = K5.sums f xs h := fun f xs h h0 h1 h2 h3 => (kv_rest f h0 xs h).trans ((ku_rest m g T f h1 xs h).trans (kt_rest m g T f h2 h3 xs h))
  refine ⟨KV m g T,@Lev.over triv _ (@Lev.over triv _ hlev _ _) _ _,by rw [hX t5 _ _ rfl rfl rfl rfl]; rfl,rfl,?_⟩
  have hs : ∀ xs,(KV m g T).sums t5 xs h0 = none := fun xs => by rw [hX t5 _ _ rfl rfl rfl rfl]; rfl
  have hF : (KV m g T).funcs.get t5 = some c5 := rfl
  have hfu : (KV m g T).fuel = 100000 := rfl
  refine begin1 (hs _) hF fun fr t ga => ?_
  have c6 : ∀ h,callN (KV m g T) 59 (.fn t6 [] []) [] h = .ret (.bool true) h := fun h => call_sum (by rw [List.nil_append,List.append_nil,hX t6 _ _ rfl rfl rfl rfl,k5_6]; rfl)
  have c7 : ∀ h,callN (KV m g T) 59 (.fn t7 [] []) [.agg (caseC c)] h = .ret (.tup [.agg (tyC T),strsV l,strsV l2]) h := fun h => call_sum (by rw [List.nil_append,List.append_nil,hX t7 _ _ rfl rfl rfl rfl,strsV_eq,strsV_eq]; exact hmade h)
  have c9 : ∀ i j q x,i < m → j < m → x.length = m → ∀ h,callN (KV m g T) 59 (.fn t9 [] []) [.agg [.str T.nm,slV padC T.pads,slV gateC T.gates],strsV x,.agg [.str [],.str (nmOf i),.str (nmOf j),.bool q]] h = .ret (swpV (swapF m g i j q x)) h := fun i j q x hi hj hx h => call_sum (by
    rw [List.nil_append,List.append_nil,kv_rest t9 rfl,ku_rest m g T t9 rfl]; exact kt_swap m g T x hx k6 hi hj q h)
  have c13 : ∀ x y,x.length = m → y.length = m → ∀ h,callN (KV m g T) 59 (.fn t13 [] []) [strsV x,strsV y,.agg [.str T.nm,slV padC T.pads,slV gateC T.gates]] h = .ret (.bool (lessF T x y)) h := fun x y hx hy h => call_sum (by
    rw [List.nil_append,List.append_nil]; exact kv_13 (by omega) hsh.1 hsh.2 (by omega) (by omega) h)
  have c10 : ∀ h,callN (KV m g T) 59 (.fn t10 [] []) [.agg (tyC T),strsV l] h = .ret (.tup [strsV (canonS g l),.bool true]) h := fun h => call_sum (by
    rw [List.nil_append,List.append_nil,kv_rest t10 rfl,ku_rest m g T t10 rfl,← canonF_eq hg k6 hl]; exact kt_canon m g T l hl h)
  have hcl : (canonS g l).length < 90000 := by rw [len_canonS]; omega
  have c11 : ∀ h,callN (KV m g T) 59 (.fn t11 [] []) [strsV (canonS g l),strsV (canonS g l)] h = .ret (.bool true) h := fun h => call_sum (by
    rw [List.nil_append,List.append_nil,hX t11 _ _ rfl rfl rfl rfl,k5_11,strsV_eq]; exact same19_sum ⟨1,canonS g l⟩ hcl h)
  simp only [caseC] at ga c7
  simp only [tyC] at c7 c10
  rw [c5_eq]
  simp +decide only [execA,opsA,wantedA,evalAll,evalA,oneA,st_mov,st_alloc,st_box,st_load,st_store,st_call,st_extract,ld_ptr,H.cellsAt,H.newB,partA,tk_0,tk_c,storeA,setAt,ones,cl_agg,on_str,on_slV,St.put,Tr.get_put,if_true,if_false,cond_true,Nat.zero_add,up_succ,List.length,nbeq,decide_true,Nat.reduceAdd,leaveA,resultA,resultsA,Option.map_some,beq_t,Bool.and_self,ex_0,ex_1,ex_2,ga,c6,c7,c10,hfu]
  generalize hit : iterA (execA (KV m g T) (callN (KV m g T) 59) c5_l3) 100000 _ = o
  have hq : QA (canonS g l) g l o := by
    rw [← hit]
    refine reach_l3 hfu hg k6 hLF hlT hpn c9 c13 (by decide) ⟨?_,?_,?_,?_,?_,?_⟩ ?_ hl
    all_goals simp +decide only [Tr.get_put,if_true,if_false]
  obtain ⟨fr,t,nx2,rfl,g3,g7,g8,g9⟩ := hq
  simp +decide only [st_mov,st_call,st_pick,Tr.get_put,if_true,if_false,cond_true,decide_true,ret_iff,dfrsA,g3,g7,g8,g9,c11]
end Go.Abs.Sym
end
