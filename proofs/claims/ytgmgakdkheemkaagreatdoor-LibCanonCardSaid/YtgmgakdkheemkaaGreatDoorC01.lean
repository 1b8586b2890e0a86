/- Where no swap makes an arrangement less, it is its Canon; how often a swap can make it less. -/
import Derived.Test.YtgmgakdkheemkaaGreatDoorL44
import Derived.KernelRfl
import Derived.Test.YtgmgakdkheemkaaGreatDoorL45
import Derived.Test.YtgmgakdkheemkaaGreatDoorL05
section
namespace Go.Abs.Sym
open Go.Abs.T
def ordP (g : Nat) : List Nat := (gtOf g).flatMap (fun x => x.2.map (·.1))
def keyS (g : Nat) (l : Ls) : Ls := (ordP g).map (nthS l)
def lessK (g : Nat) (a b : Ls) : Prop := keyS g a < keyS g b
theorem lc (a b : List Nat) (x y : Ls) : (a :: x) < (b :: y) ↔ a < b ∨ a = b ∧ x < y := List.cons_lt_cons_iff
theorem l0 : ¬ (([] : Ls) < []) := List.lt_irrefl _
theorem li (a : List Nat) : ¬ a < a := List.lt_irrefl a
theorem not2 {a b c d : List Nat} {x y : Ls} (h : ¬ (c :: d :: x) < (a :: b :: y)) : ¬ ([c,d] : Ls) < [a,b] := fun e => h (by
  rw [lc,lc] at e ⊢
  rcases e with e | ⟨rfl,e | ⟨rfl,e⟩⟩
  · exact .inl e
  · exact .inr ⟨rfl,.inl e⟩
  · exact absurd e l0)
theorem not1 {a b : List Nat} {x y : Ls} (h : ¬ (b :: x) < (a :: y)) : ¬ ([b] : Ls) < [a] := fun e => h (by
  rw [lc] at e ⊢
  rcases e with e | ⟨rfl,e⟩
  · exact .inl e
  · exact absurd e l0)
theorem pre {a : List Nat} {x y : Ls} (h : ¬ (a :: x) < (a :: y)) : ¬ x < y := fun e => h (by rw [lc]; exact .inr ⟨rfl,e⟩)
theorem s2_fix {a b : List Nat} (h : ¬ ([b] : Ls) < [a]) : s2a a b = a ∧ s2b a b = b := by
  unfold s2a s2b
  rw [if_neg h,if_neg h]
  exact ⟨rfl,rfl⟩
theorem g02_fix {a b c d : List Nat} {t : Ls} (h : ¬ ([c,d] : Ls) < [a,b]) : sortedS [[0,1],[2,3]] (a :: b :: c :: d :: t) = a :: b :: c :: d :: t := by
  show putSs (a :: b :: c :: d :: t) [[0,1],[2,3]] (sortS [[a,b],[c,d]] []) = _
  rw [sort2_eq,if_neg h]
  rfl
theorem k_fix {a b c d e f : List Nat} (h1 : ¬ ([c,d] : Ls) < [a,b]) (h3 : ¬ ([f,e] : Ls) < [c,d]) : sortedS [[0,1],[2,3],[5,4]] [a,b,c,d,e,f] = [a,b,c,d,e,f] := by
  show putSs [a,b,c,d,e,f] [[0,1],[2,3],[5,4]] (sortS [[a,b],[c,d],[f,e]] []) = _
  rw [sort3_eq,if_neg h1,if_neg h3]
  rfl
theorem g54_fix (a b c d e f : List Nat) : sortedS [[5,4]] [a,b,c,d,e,f] = [a,b,c,d,e,f] := rfl
theorem cn0 (l : Ls) : canonS 0 l = l := rfl
theorem cn1 (a b : List Nat) (t : Ls) : canonS 1 (a :: b :: t) = a :: b :: t := rfl
theorem canon_fix {m g : Nat} (hv : (m,g) ∈ vars) {l : Ls} (hl : l.length = m) (h : ∀ r ∈ swL m g,¬ lessK g (r.map (nthS l)) l) : canonS g l = l := by
  simp only [vars,List.mem_cons,Prod.mk.injEq,List.not_mem_nil,or_false] at hv
  have two : ∀ (a b : List Nat) (t : Ls),¬ ([b] : Ls) < [a] → canonS 2 (a :: b :: t) = a :: b :: t := fun a b t h => by rw [cn2,(s2_fix h).1,(s2_fix h).2]
  have three : ∀ (a b c d : List Nat) (t : Ls),¬ ([c,d] : Ls) < [a,b] → canonS 3 (a :: b :: c :: d :: t) = a :: b :: c :: d :: t := fun a b c d t h => by rw [cn3,g02_fix h]
  have four : ∀ (a b c d : List Nat) (t : Ls),¬ ([b] : Ls) < [a] → ¬ ([d] : Ls) < [c] → ¬ ([c,d] : Ls) < [a,b] → canonS 4 (a :: b :: c :: d :: t) = a :: b :: c :: d :: t := fun a b c d t h1 h2 h3 => by
    rw [cn4,(s2_fix h1).1,(s2_fix h1).2,(s2_fix h2).1,(s2_fix h2).2,g02_fix h3]
  rcases hv with ⟨rfl,rfl⟩ | ⟨rfl,rfl⟩ | ⟨rfl,rfl⟩ | ⟨rfl,rfl⟩ | ⟨rfl,rfl⟩ | ⟨rfl,rfl⟩ | ⟨rfl,rfl⟩ | ⟨rfl,rfl⟩ | ⟨rfl,rfl⟩ | ⟨rfl,rfl⟩ | ⟨rfl,rfl⟩ | ⟨rfl,rfl⟩ | ⟨rfl,rfl⟩ | ⟨rfl,rfl⟩ | ⟨rfl,rfl⟩ | ⟨rfl,rfl⟩ | ⟨rfl,rfl⟩ | ⟨rfl,rfl⟩ | ⟨rfl,rfl⟩ | ⟨rfl,rfl⟩ | ⟨rfl,rfl⟩
  · rfl
  · match l,hl with | [a,b],_ => rfl
  · match l,hl with | [a,b],_ => exact two _ _ _ (not1 (h [1,0] (by decide)))
  · rfl
  · match l,hl with | [a,b,c],_ => rfl
  · match l,hl with | [a,b,c],_ => exact two _ _ _ (not1 (h [1,0,2] (by decide)))
  · rfl
  · match l,hl with | [a,b,c,d],_ => exact three _ _ _ _ _ (not2 (h [2,3,0,1] (by decide)))
  · match l,hl with | [a,b,c,d],_ => exact four _ _ _ _ _ (not1 (h [1,0,2,3] (by decide))) (not1 (pre (pre (h [0,1,3,2] (by decide))))) (not2 (h [2,3,0,1] (by decide)))
  · rfl
  · match l,hl with | [a,b,c,d,e],_ => exact three _ _ _ _ _ (not2 (h [2,3,0,1,4] (by decide)))
  · match l,hl with | [a,b,c,d,e],_ => exact four _ _ _ _ _ (not1 (h [1,0,2,3,4] (by decide))) (not1 (pre (pre (h [0,1,3,2,4] (by decide))))) (not2 (h [2,3,0,1,4] (by decide)))
  · rfl
  · match l,hl with | [a,b,c,d,e,f],_ => exact three _ _ _ _ _ (not2 (h [2,3,0,1,4,5] (by decide)))
  · match l,hl with | [a,b,c,d,e,f],_ => exact four _ _ _ _ _ (not1 (h [1,0,2,3,4,5] (by decide))) (not1 (pre (pre (h [0,1,3,2,4,5] (by decide))))) (not2 (h [2,3,0,1,4,5] (by decide)))
  · match l,hl with | [a,b,c,d,e,f],_ => rw [cn5]; exact g02_fix (not2 (h [2,3,0,1,4,5] (by decide)))
  · match l,hl with | [a,b,c,d,e,f],_ => rw [cn6]; exact k_fix (not2 (h [2,3,0,1,4,5] (by decide))) (not2 (pre (pre (h [0,1,5,4,3,2] (by decide)))))
  · match l,hl with
    | [a,b,c,d,e,f],_ =>
      have hg : sortedS [[0,1],[2,3]] [a,b,c,d,e,f] = [a,b,c,d,e,f] := g02_fix (not2 (h [2,3,0,1,4,5] (by decide)))
      rw [cn7,hg]
      rfl
  · match l,hl with
    | [a,b,c,d,e,f],_ =>
      have h1 : s2a a b = a ∧ s2b a b = b := s2_fix (not1 (h [1,0,2,3,4,5] (by decide)))
      have h2 : s2a c d = c ∧ s2b c d = d := s2_fix (not1 (pre (pre (h [0,1,3,2,4,5] (by decide)))))
      have h3 : s2a f e = f ∧ s2b f e = e := s2_fix (not1 (pre (pre (pre (pre (h [0,1,2,3,5,4] (by decide)))))))
      have hg : sortedS [[0,1],[2,3]] [a,b,c,d,e,f] = [a,b,c,d,e,f] := g02_fix (not2 (h [2,3,0,1,4,5] (by decide)))
      rw [cn8,h1.1,h1.2,h2.1,h2.2,h3.1,h3.2,hg]
  · match l,hl with
    | [a,b,c,d,e,f],_ =>
      have h1 : s2a a b = a ∧ s2b a b = b := s2_fix (not1 (h [1,0,2,3,4,5] (by decide)))
      have h2 : s2a c d = c ∧ s2b c d = d := s2_fix (not1 (pre (pre (h [0,1,3,2,4,5] (by decide)))))
      have h3 : s2a f e = f ∧ s2b f e = e := s2_fix (not1 (pre (pre (pre (pre (h [0,1,2,3,5,4] (by decide)))))))
      rw [cn9,h1.1,h1.2,h2.1,h2.2,h3.1,h3.2]
      exact k_fix (not2 (h [2,3,0,1,4,5] (by decide))) (not2 (pre (pre (h [0,1,5,4,3,2] (by decide)))))
  · match l,hl with
    | [a,b,c,d,e,f],_ =>
      have h1 : s2a a b = a ∧ s2b a b = b := s2_fix (not1 (h [1,0,2,3,4,5] (by decide)))
      have h2 : s2a c d = c ∧ s2b c d = d := s2_fix (not1 (pre (pre (h [0,1,3,2,4,5] (by decide)))))
      have h3 : s2a f e = f ∧ s2b f e = e := s2_fix (not1 (pre (pre (pre (pre (h [0,1,2,3,5,4] (by decide)))))))
      have hg : sortedS [[0,1],[2,3]] [a,b,c,d,e,f] = [a,b,c,d,e,f] := g02_fix (not2 (h [2,3,0,1,4,5] (by decide)))
      rw [cn10,h1.1,h1.2,h2.1,h2.2,h3.1,h3.2,hg]
      rfl
def uniq : List (List Nat) → List (List Nat)
  | [] => []
  | x :: l => let u := uniq l; bif u.any (eqS x) then u else x :: u
def grow (s : List (List Nat)) (G : List (List Nat)) : List (List Nat) := uniq (G ++ G.flatMap (fun r => s.map (takeL r)))
def growN (s : List (List Nat)) : Nat → List (List Nat) → List (List Nat)
  | 0,G => G
  | n + 1,G => growN s n (grow s G)
def orb (m g : Nat) : List (List Nat) := growN (swL m g) 6 [rngL m]
def orbOK (m g : Nat) : Bool := Nat.ble (orb m g).length 48 && ((orb m g).any (eqS (rngL m)) && ((orb m g).all fun r => Nat.beq r.length m && (swL m g).all fun s => (orb m g).any (eqS (takeL r s)) && s.all (fun p => Nat.blt p m)))
theorem orbAll : vars.all (fun v => orbOK v.1 v.2) = true := by kernel_rfl
theorem any_mem {x : List Nat} {l : List (List Nat)} : l.any (eqS x) = true ↔ x ∈ l := by
  rw [List.any_eq_true]
  constructor
  · rintro ⟨y,hy,h⟩
    exact eqS_iff.1 h ▸ hy
  · exact fun h => ⟨x,h,eqS_iff.2 rfl⟩
def Reach (m g : Nat) (l0 l : Ls) : Prop := ∃ r ∈ orb m g,l = r.map (nthS l0)
theorem nthS_map' (σ : Nat → List Nat) : ∀ (r : List Nat) (p : Nat),p < r.length → nthS (r.map σ) p = σ (nthN r p)
  | _ :: _,0,_ => rfl
  | _ :: r,p + 1,h => nthS_map' σ r p (Nat.lt_of_succ_lt_succ h)
section
variable {m g : Nat} (hv : (m,g) ∈ vars)
include hv
theorem orb_ok : (orb m g).length ≤ 48 ∧ rngL m ∈ orb m g ∧ ∀ r ∈ orb m g,r.length = m ∧ ∀ s ∈ swL m g,takeL r s ∈ orb m g ∧ ∀ p ∈ s,p < m := by
  have h := List.all_eq_true.1 orbAll _ hv
  simp only [orbOK,Bool.and_eq_true,List.all_eq_true,any_mem] at h
  obtain ⟨h1,h2,h3⟩ := h
  refine ⟨Nat.le_of_ble_eq_true h1,h2,fun r hr => ?_⟩
  obtain ⟨h4,h5⟩ := h3 r hr
  exact ⟨Nat.eq_of_beq_eq_true h4,fun s hs => ⟨(h5 s hs).1,fun p hp => Nat.le_of_ble_eq_true ((h5 s hs).2 p hp)⟩⟩
theorem reach_step {l0 l : Ls} (h : Reach m g l0 l) {s : List Nat} (hs : s ∈ swL m g) : Reach m g l0 (s.map (nthS l)) := by
  obtain ⟨r,hr,rfl⟩ := h
  obtain ⟨h1,h2⟩ := (orb_ok hv).2.2 r hr
  refine ⟨takeL r s,(h2 s hs).1,?_⟩
  rw [takeL,List.map_map]
  exact List.map_congr_left fun p hp => nthS_map' (nthS l0) r p (by rw [h1]; exact (h2 s hs).2 p hp)
end
def rank (m g : Nat) (l0 l : Ls) : Nat := (orb m g).countP (fun r => cmpL (keyS g (r.map (nthS l0))) (keyS g l) = -1)
theorem count_lt {α : Type} {p q : α → Bool} (hpq : ∀ x,p x = true → q x = true) : ∀ {l : List α} {x : α},x ∈ l → q x = true → p x = false → l.countP p < l.countP q
  | a :: l,x,hx,hq,hp => by
    have hle : l.countP p ≤ l.countP q := List.countP_mono_left fun x _ => hpq x
    rcases List.mem_cons.1 hx with rfl | hx
    · rw [List.countP_cons,List.countP_cons,hp,hq]
      simp only [Bool.false_eq_true,if_false,if_true]
      omega
    · have ih := count_lt hpq hx hq hp
      rw [List.countP_cons,List.countP_cons]
      cases h : p a with
      | true =>
        rw [hpq a h]
        simp only [if_true]
        omega
      | false =>
        simp only [Bool.false_eq_true,if_false]
        split <;> omega
theorem rank_lt {m g : Nat} {l0 a b : Ls} (ha : Reach m g l0 a) (h : lessK g a b) : rank m g l0 a < rank m g l0 b := by
  obtain ⟨r,hr,rfl⟩ := ha
  refine count_lt (fun x hx => ?_) hr ?_ ?_
  · have h1 := (cmpL_iff _ _).1.1 (of_decide_eq_true hx)
    exact decide_eq_true ((cmpL_iff _ _).1.2 (List.lt_trans h1 h))
  · exact decide_eq_true ((cmpL_iff _ _).1.2 h)
  · exact decide_eq_false fun e => List.lt_irrefl _ ((cmpL_iff _ _).1.1 e)
theorem rank_le {m g : Nat} (hv : (m,g) ∈ vars) (l0 l : Ls) : rank m g l0 l ≤ 48 := Nat.le_trans List.countP_le_length (orb_ok hv).1
end Go.Abs.Sym
end
section
namespace Go.Abs.Sym
open Go.Abs.T
theorem reach_self0 {m g : Nat} (hv : (m,g) ∈ vars) (hm : m ≤ 6) {l : Ls} (hl : l.length = m) : Reach m g l l := ⟨rngL m,(orb_ok hv).2.1,(nthS_rng hl hm).symm⟩
section
variable {m g : Nat} (hv : (m,g) ∈ vars) (hm : m ≤ 6)
include hv hm
omit hm in
theorem canon_end {l : Ls} (_hl : l.length = m) : ∀ (n : Nat) (x : Ls),rank m g l x ≤ n → x.length = m → Reach m g l x → canonS g x = canonS g l → Reach m g l (canonS g l) ∧ canonS g (canonS g l) = canonS g l := by
  intro n
  induction n with
  | zero =>
    intro x hr hx h1 h2
    have hf : canonS g x = x := canon_fix hv hx fun r hr' hlt => by
      have := rank_lt (reach_step hv h1 hr') hlt
      omega
    rw [← h2,hf]
    exact ⟨h1,hf⟩
  | succ n ih =>
    intro x hr hx h1 h2
    by_cases h : ∃ r ∈ swL m g,lessK g (r.map (nthS x)) x
    · obtain ⟨r,hr',hlt⟩ := h
      have h3 := reach_step hv h1 hr'
      have h4 := rank_lt h3 hlt
      have h5 := swap_canon hv hr' hx
      have h6 : (r.map (nthS x)).length = m := by
        rw [List.length_map]
        have h7 := congrArg List.length h5
        rw [len_canonS,len_canonS,List.length_map] at h7
        omega
      exact ih _ (by omega) h6 h3 (h5.trans h2)
    · have hf : canonS g x = x := canon_fix hv hx fun r hr' hlt => h ⟨r,hr',hlt⟩
      rw [← h2,hf]
      exact ⟨h1,hf⟩
theorem canon_reach {l : Ls} (hl : l.length = m) : Reach m g l (canonS g l) ∧ canonS g (canonS g l) = canonS g l :=
  canon_end hv hl 48 l (rank_le hv l l) hl (reach_self0 hv hm hl) rfl
end
theorem orbPerm : vars.all (fun v => (orb v.1 v.2).all (fun r => r.isPerm (rngL v.1))) = true := by kernel_rfl
theorem canon_perm {m g : Nat} (hv : (m,g) ∈ vars) (hm : m ≤ 6) {l : Ls} (hl : l.length = m) : (canonS g l).Perm l := by
  obtain ⟨r,hr,e⟩ := (canon_reach hv hm hl).1
  have h1 := List.all_eq_true.1 (List.all_eq_true.1 orbPerm _ hv) r hr
  have h2 : r.Perm (rngL m) := List.isPerm_iff.1 h1
  have h3 := h2.map (nthS l)
  rw [nthS_rng hl hm] at h3
  rw [e]
  exact h3
def cnt (l : Ls) (s : List Nat) (i : Nat) : Nat := (l.take i).countP (eqS s)
theorem cnt_zero (l : Ls) (s : List Nat) : cnt l s 0 = 0 := rfl
theorem cnt_le (l : Ls) (s : List Nat) (i : Nat) : cnt l s i ≤ i := Nat.le_trans List.countP_le_length (by rw [List.length_take]; omega)
theorem cnt_succ {l : Ls} {i : Nat} {x : List Nat} (h : l[i]? = some x) (s : List Nat) : cnt l s (i + 1) = cnt l s i + (eqS s x).toNat := by
  unfold cnt
  rw [List.take_add_one,h,Option.toList,List.countP_append,List.countP_cons,List.countP_nil]
  cases eqS s x <;> rfl
theorem cnt_perm {a b : Ls} (h : a.Perm b) (s : List Nat) : cnt a s a.length = cnt b s b.length := by
  unfold cnt
  rw [List.take_length,List.take_length]
  exact h.countP_eq _
abbrev Es := List (List Nat × Int)
def getE (s : List Nat) : Es → Option Int
  | [] => none
  | (k,n) :: es => bif eqS s k then some n else getE s es
def putE (s : List Nat) (n : Int) : Es → Es
  | [] => [(s,n)]
  | (k,x) :: es => bif eqS s k then (s,n) :: es else (k,x) :: putE s n es
def valE (s : List Nat) (es : Es) : Int := (getE s es).getD (.ofNat 0)
def esC (es : Es) : List (AV × AV) := es.map fun p => (.str p.1,.int .i64 p.2)
theorem eqS_comm (a b : List Nat) : eqS a b = eqS b a := by
  rw [Bool.eq_iff_iff,eqS_iff,eqS_iff]
  exact eq_comm
theorem get_put (s t : List Nat) (n : Int) : ∀ es : Es,getE s (putE t n es) = bif eqS s t then some n else getE s es
  | [] => rfl
  | (k, x) :: es => by
    have ih := get_put s t n es
    simp only [putE]
    cases h1 : eqS t k with
    | true =>
      have e := eqS_iff.1 h1
      subst e
      simp only [cond_true,getE]
      cases eqS s t <;> rfl
    | false =>
      simp only [cond_false,getE,ih]
      cases h2 : eqS s k with
      | false => rfl
      | true =>
        have e := eqS_iff.1 h2
        subst e
        simp only [cond_true]
        rw [eqS_comm,h1]
        rfl
theorem find_E (s : List Nat) : ∀ es : Es,findA ⟨[.s],false⟩ (.str s) (esC es) = some ((getE s es).map fun n => .int .i64 n)
  | [] => rfl
  | (k,x) :: es => by
    have ih := find_E s es
    simp only [esC] at ih
    simp only [esC,List.map_cons,findA,keyEq,keyCells,eqFlat,getE,ih,cond_false]
    cases eqS s k <;> rfl
theorem upd_E (s : List Nat) (n : Int) : ∀ es : Es,updA ⟨[.s],false⟩ (.str s) (.int .i64 n) (esC es) = esC (putE s n es)
  | [] => rfl
  | (k,x) :: es => by
    have ih := upd_E s n es
    simp only [esC] at ih
    simp only [esC,List.map_cons,updA,keyEq,keyCells,eqFlat,putE,ih,cond_false]
    cases eqS s k <;> rfl
def DisE : Es → Prop
  | [] => True
  | (k,_) :: es => getE k es = none ∧ DisE es
theorem dis_put {s : List Nat} {n : Int} : ∀ {es : Es},DisE es → DisE (putE s n es)
  | [],_ => ⟨rfl,trivial⟩
  | (k,x) :: es,h => by
    simp only [DisE] at h
    simp only [putE]
    cases h1 : eqS s k with
    | true =>
      have e := eqS_iff.1 h1
      subst e
      exact h
    | false =>
      refine ⟨?_,dis_put h.2⟩
      rw [get_put,eqS_comm,h1]
      exact h.1
theorem dis_get : ∀ {es : Es},DisE es → ∀ p ∈ es,getE p.1 es = some p.2
  | [],_,p,hp => by cases hp
  | (k, x) :: es,h,p,hp => by
    rcases List.mem_cons.1 hp with rfl | hp
    · simp only [getE,eqS_iff.2 rfl,cond_true]
    · have ih := dis_get h.2 p hp
      simp only [getE]
      cases h1 : eqS p.1 k with
      | false => exact ih
      | true =>
        have e := eqS_iff.1 h1
        rw [e,h.1] at ih
        cases ih
theorem any_zero {es : Es} (h : ∀ p ∈ es,p.2 = 0) (hne : 0 < es.length) : ∃ k,anyA (esC es) = some (k,.int .i64 (.ofNat 0)) := by
  match es,hne with
  | [(k,x)],_ =>
    have := h (k,x) (by simp)
    simp only at this
    subst this
    exact ⟨_,rfl⟩
  | (k,x) :: e :: es,_ =>
    have hx := h (k,x) (by simp)
    simp only at hx
    subst hx
    refine ⟨.sym topI,?_⟩
    have ha : ((esC (e :: es)).all fun p => p.1.one && AV.beq (.int .i64 0) p.2) = true := by
      rw [List.all_eq_true]
      intro p hp
      simp only [esC,List.mem_map] at hp
      obtain ⟨q,hq,rfl⟩ := hp
      have hz := h q (List.mem_cons_of_mem _ hq)
      rw [hz]
      rfl
    simp only [esC,List.map_cons] at ha
    simp only [esC,List.map_cons,anyA]
    rw [ha]
    rfl
end Go.Abs.Sym
end
section
namespace Go.Abs.T
open AV
set_option maxRecDepth 100000
def c4_l0 : ACode := (.seq (.reg [⟨s75,.bin .lss .one,[v74,v73],none⟩]) (.seq (.cond (v75) .skip (.exit 0)) (.seq (.block 1 (.seq (.reg [⟨s76,.mov,[v74],none⟩,⟨s12,.mov,[v76],none⟩]) (.seq (.reg [⟨s77,.mov,[v11],none⟩,⟨s78,.mov,[v5],none⟩,⟨s79,.mov,[v12],none⟩,⟨s80,.indexAddr (.slc 1),[v78,v79],none⟩,⟨s81,.load none,[v80],none⟩,⟨s82,.lookup ⟨[.s],false⟩ i0 false,[v77,v81],none⟩,⟨s83,.bin .add .one,[v82,.const i1],none⟩,⟨none,.mapUpd ⟨[.s],false⟩,[v77,v81,v83],none⟩]) (.reg [⟨s84,.mov,[v11],none⟩,⟨s85,.mov,[v7],none⟩,⟨s86,.mov,[v12],none⟩,⟨s87,.indexAddr (.slc 1),[v85,v86],none⟩,⟨s88,.load none,[v87],none⟩,⟨s89,.lookup ⟨[.s],false⟩ i0 false,[v84,v88],none⟩,⟨s90,.bin .sub .one,[v89,.const i1],none⟩,⟨none,.mapUpd ⟨[.s],false⟩,[v84,v88,v90],none⟩])))) (.reg [⟨s91,.bin .add .one,[v74,.const i1],none⟩,⟨s74,.mov,[v91],none⟩]))))
def c4_l1 : ACode := (.seq (.reg [⟨s94,.next false,[v93],none⟩,⟨s95,.extract 0,[v94],none⟩]) (.seq (.cond (v95) .skip (.exit 2)) (.block 3 (.seq (.reg [⟨s96,.entry,[v93],none⟩,⟨s97,.extract 1,[v96],none⟩,⟨s14,.mov,[v97],none⟩]) (.seq (.reg [⟨s98,.mov,[v14],none⟩,⟨s99,.bin .neq .one,[v98,.const i0],none⟩]) (.cond (v99) (.seq (.reg [⟨s2,.mov,[.const (bool false)],none⟩]) .ret) .skip))))))
theorem c4_eq : c4 = ⟨101,[.tmp t2],(.seq (.reg [⟨s1,.box,[v0],none⟩,⟨s2,.mov,[.const (bool false)],none⟩]) (.seq (.reg [⟨s15,.call,[.const (g t6)],none⟩,⟨s3,.mov,[v15],none⟩]) (.seq (.reg [⟨s17,.load (some 9),[v1],none⟩,⟨s18,.call,[.const (g t7),v17],none⟩,⟨s16,.mov,[v18],none⟩,⟨s19,.extract 0,[v16],none⟩,⟨s20,.extract 1,[v16],none⟩,⟨s21,.extract 2,[v16],none⟩,⟨s4,.alloc [e0,nils,nils],[],none⟩,⟨none,.store 3,[v4,v19],none⟩,⟨s5,.mov,[v20],none⟩,⟨s6,.mov,[v21],none⟩]) (.seq (.reg [⟨s23,.load (some 3),[v4],none⟩,⟨s24,.mov,[v5],none⟩,⟨s25,.call,[.const (g t10),v23,v24],none⟩,⟨s22,.mov,[v25],none⟩,⟨s26,.extract 0,[v22],none⟩,⟨s27,.extract 1,[v22],none⟩,⟨s7,.mov,[v26],none⟩,⟨s8,.mov,[v27],none⟩]) (.seq (.reg [⟨s29,.load (some 3),[v4],none⟩,⟨s30,.mov,[v7],none⟩,⟨s31,.call,[.const (g t10),v29,v30],none⟩,⟨s28,.mov,[v31],none⟩,⟨s32,.extract 0,[v28],none⟩,⟨s33,.extract 1,[v28],none⟩,⟨s9,.mov,[v32],none⟩,⟨s10,.mov,[v33],none⟩]) (.seq (.seq (.dreg [⟨⟨s34,.mov,[v8],none⟩,false,0,16,false,[],false⟩,⟨⟨s35,.un .not,[v34],none⟩,false,0,16,false,[],false⟩,⟨⟨s36,.mov,[v35],none⟩,false,0,16,false,[],false⟩,⟨⟨s37,.mov,[v10],(some (t36,false))⟩,false,0,16,false,[],false⟩,⟨⟨s38,.un .not,[v37],(some (t36,false))⟩,false,0,16,false,[],false⟩,⟨⟨s39,.pick,[v36,.const (bool true),v38],none⟩,false,0,16,false,[],false⟩,⟨⟨s40,.mov,[v39],none⟩,false,0,16,false,[],false⟩,⟨⟨s41,.mov,[v7],(some (t40,false))⟩,false,0,16,false,[],false⟩,⟨⟨s42,.len .slc,[v41],(some (t40,false))⟩,false,0,16,false,[],false⟩,⟨⟨s43,.mov,[v5],(some (t40,false))⟩,false,0,16,false,[],false⟩,⟨⟨s44,.len .slc,[v43],(some (t40,false))⟩,false,0,16,false,[],false⟩,⟨⟨s45,.bin .neq .one,[v42,v44],(some (t40,false))⟩,false,0,16,false,[],false⟩,⟨⟨s46,.pick,[v40,.const (bool true),v45],none⟩,false,0,16,false,[],false⟩,⟨⟨s47,.mov,[v46],none⟩,false,0,16,false,[],false⟩,⟨⟨s48,.mov,[v7],(some (t47,false))⟩,false,0,16,false,[],false⟩,⟨⟨s49,.mov,[v9],(some (t47,false))⟩,false,0,16,false,[],false⟩,⟨⟨s50,.call,[.const (g t11),v48,v49],(some (t47,false))⟩,true,0,23,true,[],false⟩,⟨⟨s51,.un .not,[v50],(some (t47,false))⟩,false,17,23,false,[],false⟩,⟨⟨s52,.pick,[v47,.const (bool true),v51],none⟩,false,17,23,false,[],false⟩,⟨⟨s53,.mov,[v52],none⟩,false,17,23,false,[],false⟩,⟨⟨s54,.load (some 3),[v4],(some (t53,false))⟩,false,17,23,false,[],false⟩,⟨⟨s55,.mov,[v5],(some (t53,false))⟩,false,17,23,false,[],false⟩,⟨⟨s56,.mov,[v7],(some (t53,false))⟩,false,17,23,false,[],false⟩,⟨⟨s57,.call,[.const (g t12),v54,v55,v56],(some (t53,false))⟩,true,17,30,true,[],false⟩,⟨⟨s58,.un .not,[v57],(some (t53,false))⟩,false,24,30,false,[],false⟩,⟨⟨s59,.pick,[v53,.const (bool true),v58],none⟩,false,24,30,false,[],false⟩,⟨⟨s60,.mov,[v59],none⟩,false,24,30,false,[],false⟩,⟨⟨s61,.load (some 3),[v4],(some (t60,false))⟩,false,24,30,false,[],false⟩,⟨⟨s62,.mov,[v5],(some (t60,false))⟩,false,24,30,false,[],false⟩,⟨⟨s63,.mov,[v6],(some (t60,false))⟩,false,24,30,false,[],false⟩,⟨⟨s64,.call,[.const (g t12),v61,v62,v63],(some (t60,false))⟩,true,24,34,true,[],false⟩,⟨⟨s65,.load (some 3),[v4],(some (t60,false))⟩,false,24,34,true,[],false⟩,⟨⟨s66,.mov,[v6],(some (t60,false))⟩,false,24,34,true,[],false⟩,⟨⟨s67,.mov,[v5],(some (t60,false))⟩,false,24,34,true,[],false⟩,⟨⟨s68,.call,[.const (g t12),v65,v66,v67],(some (t60,false))⟩,true,31,37,true,[],false⟩,⟨⟨s69,.bin .neq .bool,[v64,v68],(some (t60,false))⟩,false,35,37,false,[],false⟩,⟨⟨s70,.pick,[v60,.const (bool true),v69],none⟩,false,35,37,false,[],true⟩]) (.cond (v70) (.seq (.reg [⟨s2,.mov,[.const (bool false)],none⟩]) .ret) .skip)) (.seq (.reg [⟨s71,.mkMap,[],none⟩,⟨s11,.mov,[v71],none⟩]) (.seq (.seq (.reg [⟨s72,.mov,[v5],none⟩,⟨s73,.len .slc,[v72],none⟩,⟨s74,.mov,[.const i0],none⟩]) (.block 0 (.loop c4_l0))) (.seq (.seq (.reg [⟨s92,.mov,[v11],none⟩,⟨s93,.rangeMap,[v92],none⟩]) (.block 2 (.loop c4_l1))) (.seq (.reg [⟨s100,.mov,[v3],none⟩,⟨s2,.mov,[v100],none⟩]) .ret))))))))))⟩ := rfl
end Go.Abs.T
end
