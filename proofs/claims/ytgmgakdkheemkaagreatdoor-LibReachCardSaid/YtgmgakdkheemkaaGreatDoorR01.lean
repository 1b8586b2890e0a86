/- Where no swap makes an arrangement less, it is its Canon; how often a swap can make it less. -/
import Derived.Test.YtgmgakdkheemkaaGreatDoorL44
import Derived.KernelRfl
import Derived.Test.YtgmgakdkheemkaaGreatDoorL05
section
namespace Go.Abs.Sym
open Go.Abs.T
def ordP (g : Nat) : List Nat := (gtOf g).flatMap (fun x => x.2.map (·.1))
def keyS (g : Nat) (l : Ls) : Ls := (ordP g).map (nthS l)
def lessK (g : Nat) (a b : Ls) : Prop := keyS g a < keyS g b
theorem lc (a b : List Nat) (x y : Ls) : (a :: x) < (b :: y) ↔ a < b ∨ a = b ∧ x < y := List.cons_lt_cons_iff
theorem l0 : ¬ (([] : Ls) < []) := List.lt_irrefl _
theorem li (a : List Nat) : ¬ a < a := List.lt_irrefl a
theorem not2 {a b c d : List Nat} {x y : Ls} (h : ¬ (c :: d :: x) < (a :: b :: y)) : ¬ ([c,d] : Ls) < [a,b] := fun e => h (by
  rw [lc,lc] at e ⊢
  rcases e with e | ⟨rfl,e | ⟨rfl,e⟩⟩
  · exact .inl e
  · exact .inr ⟨rfl,.inl e⟩
  · exact absurd e l0)
theorem not1 {a b : List Nat} {x y : Ls} (h : ¬ (b :: x) < (a :: y)) : ¬ ([b] : Ls) < [a] := fun e => h (by
  rw [lc] at e ⊢
  rcases e with e | ⟨rfl,e⟩
  · exact .inl e
  · exact absurd e l0)
theorem pre {a : List Nat} {x y : Ls} (h : ¬ (a :: x) < (a :: y)) : ¬ x < y := fun e => h (by rw [lc]; exact .inr ⟨rfl,e⟩)
theorem s2_fix {a b : List Nat} (h : ¬ ([b] : Ls) < [a]) : s2a a b = a ∧ s2b a b = b := by
  unfold s2a s2b
  rw [if_neg h,if_neg h]
  exact ⟨rfl,rfl⟩
theorem g02_fix {a b c d : List Nat} {t : Ls} (h : ¬ ([c,d] : Ls) < [a,b]) : sortedS [[0,1],[2,3]] (a :: b :: c :: d :: t) = a :: b :: c :: d :: t := by
  show putSs (a :: b :: c :: d :: t) [[0,1],[2,3]] (sortS [[a,b],[c,d]] []) = _
  rw [sort2_eq,if_neg h]
  rfl
theorem k_fix {a b c d e f : List Nat} (h1 : ¬ ([c,d] : Ls) < [a,b]) (h3 : ¬ ([f,e] : Ls) < [c,d]) : sortedS [[0,1],[2,3],[5,4]] [a,b,c,d,e,f] = [a,b,c,d,e,f] := by
  show putSs [a,b,c,d,e,f] [[0,1],[2,3],[5,4]] (sortS [[a,b],[c,d],[f,e]] []) = _
  rw [sort3_eq,if_neg h1,if_neg h3]
  rfl
theorem g54_fix (a b c d e f : List Nat) : sortedS [[5,4]] [a,b,c,d,e,f] = [a,b,c,d,e,f] := rfl
theorem cn0 (l : Ls) : canonS 0 l = l := rfl
theorem cn1 (a b : List Nat) (t : Ls) : canonS 1 (a :: b :: t) = a :: b :: t := rfl
theorem canon_fix {m g : Nat} (hv : (m,g) ∈ vars) {l : Ls} (hl : l.length = m) (h : ∀ r ∈ swL m g,¬ lessK g (r.map (nthS l)) l) : canonS g l = l := by
  simp only [vars,List.mem_cons,Prod.mk.injEq,List.not_mem_nil,or_false] at hv
  have two : ∀ (a b : List Nat) (t : Ls),¬ ([b] : Ls) < [a] → canonS 2 (a :: b :: t) = a :: b :: t := fun a b t h => by rw [cn2,(s2_fix h).1,(s2_fix h).2]
  have three : ∀ (a b c d : List Nat) (t : Ls),¬ ([c,d] : Ls) < [a,b] → canonS 3 (a :: b :: c :: d :: t) = a :: b :: c :: d :: t := fun a b c d t h => by rw [cn3,g02_fix h]
  have four : ∀ (a b c d : List Nat) (t : Ls),¬ ([b] : Ls) < [a] → ¬ ([d] : Ls) < [c] → ¬ ([c,d] : Ls) < [a,b] → canonS 4 (a :: b :: c :: d :: t) = a :: b :: c :: d :: t := fun a b c d t h1 h2 h3 => by
    rw [cn4,(s2_fix h1).1,(s2_fix h1).2,(s2_fix h2).1,(s2_fix h2).2,g02_fix h3]
  rcases hv with ⟨rfl,rfl⟩ | ⟨rfl,rfl⟩ | ⟨rfl,rfl⟩ | ⟨rfl,rfl⟩ | ⟨rfl,rfl⟩ | ⟨rfl,rfl⟩ | ⟨rfl,rfl⟩ | ⟨rfl,rfl⟩ | ⟨rfl,rfl⟩ | ⟨rfl,rfl⟩ | ⟨rfl,rfl⟩ | ⟨rfl,rfl⟩ | ⟨rfl,rfl⟩ | ⟨rfl,rfl⟩ | ⟨rfl,rfl⟩ | ⟨rfl,rfl⟩ | ⟨rfl,rfl⟩ | ⟨rfl,rfl⟩ | ⟨rfl,rfl⟩ | ⟨rfl,rfl⟩ | ⟨rfl,rfl⟩
  · rfl
  · match l,hl with | [a,b],_ => rfl
  · match l,hl with | [a,b],_ => exact two _ _ _ (not1 (h [1,0] (by decide)))
  · rfl
  · match l,hl with | [a,b,c],_ => rfl
  · match l,hl with | [a,b,c],_ => exact two _ _ _ (not1 (h [1,0,2] (by decide)))
  · rfl
  · match l,hl with | [a,b,c,d],_ => exact three _ _ _ _ _ (not2 (h [2,3,0,1] (by decide)))
  · match l,hl with | [a,b,c,d],_ => exact four _ _ _ _ _ (not1 (h [1,0,2,3] (by decide))) (not1 (pre (pre (h [0,1,3,2] (by decide))))) (not2 (h [2,3,0,1] (by decide)))
  · rfl
  · match l,hl with | [a,b,c,d,e],_ => exact three _ _ _ _ _ (not2 (h [2,3,0,1,4] (by decide)))
  · match l,hl with | [a,b,c,d,e],_ => exact four _ _ _ _ _ (not1 (h [1,0,2,3,4] (by decide))) (not1 (pre (pre (h [0,1,3,2,4] (by decide))))) (not2 (h [2,3,0,1,4] (by decide)))
  · rfl
  · match l,hl with | [a,b,c,d,e,f],_ => exact three _ _ _ _ _ (not2 (h [2,3,0,1,4,5] (by decide)))
  · match l,hl with | [a,b,c,d,e,f],_ => exact four _ _ _ _ _ (not1 (h [1,0,2,3,4,5] (by decide))) (not1 (pre (pre (h [0,1,3,2,4,5] (by decide))))) (not2 (h [2,3,0,1,4,5] (by decide)))
  · match l,hl with | [a,b,c,d,e,f],_ => rw [cn5]; exact g02_fix (not2 (h [2,3,0,1,4,5] (by decide)))
  · match l,hl with | [a,b,c,d,e,f],_ => rw [cn6]; exact k_fix (not2 (h [2,3,0,1,4,5] (by decide))) (not2 (pre (pre (h [0,1,5,4,3,2] (by decide)))))
  · match l,hl with
    | [a,b,c,d,e,f],_ =>
      have hg : sortedS [[0,1],[2,3]] [a,b,c,d,e,f] = [a,b,c,d,e,f] := g02_fix (not2 (h [2,3,0,1,4,5] (by decide)))
      rw [cn7,hg]
      rfl
  · match l,hl with
    | [a,b,c,d,e,f],_ =>
      have h1 : s2a a b = a ∧ s2b a b = b := s2_fix (not1 (h [1,0,2,3,4,5] (by decide)))
      have h2 : s2a c d = c ∧ s2b c d = d := s2_fix (not1 (pre (pre (h [0,1,3,2,4,5] (by decide)))))
      have h3 : s2a f e = f ∧ s2b f e = e := s2_fix (not1 (pre (pre (pre (pre (h [0,1,2,3,5,4] (by decide)))))))
      have hg : sortedS [[0,1],[2,3]] [a,b,c,d,e,f] = [a,b,c,d,e,f] := g02_fix (not2 (h [2,3,0,1,4,5] (by decide)))
      rw [cn8,h1.1,h1.2,h2.1,h2.2,h3.1,h3.2,hg]
  · match l,hl with
    | [a,b,c,d,e,f],_ =>
      have h1 : s2a a b = a ∧ s2b a b = b := s2_fix (not1 (h [1,0,2,3,4,5] (by decide)))
      have h2 : s2a c d = c ∧ s2b c d = d := s2_fix (not1 (pre (pre (h [0,1,3,2,4,5] (by decide)))))
      have h3 : s2a f e = f ∧ s2b f e = e := s2_fix (not1 (pre (pre (pre (pre (h [0,1,2,3,5,4] (by decide)))))))
      rw [cn9,h1.1,h1.2,h2.1,h2.2,h3.1,h3.2]
      exact k_fix (not2 (h [2,3,0,1,4,5] (by decide))) (not2 (pre (pre (h [0,1,5,4,3,2] (by decide)))))
  · match l,hl with
    | [a,b,c,d,e,f],_ =>
      have h1 : s2a a b = a ∧ s2b a b = b := s2_fix (not1 (h [1,0,2,3,4,5] (by decide)))
      have h2 : s2a c d = c ∧ s2b c d = d := s2_fix (not1 (pre (pre (h [0,1,3,2,4,5] (by decide)))))
      have h3 : s2a f e = f ∧ s2b f e = e := s2_fix (not1 (pre (pre (pre (pre (h [0,1,2,3,5,4] (by decide)))))))
      have hg : sortedS [[0,1],[2,3]] [a,b,c,d,e,f] = [a,b,c,d,e,f] := g02_fix (not2 (h [2,3,0,1,4,5] (by decide)))
      rw [cn10,h1.1,h1.2,h2.1,h2.2,h3.1,h3.2,hg]
      rfl
def uniq : List (List Nat) → List (List Nat)
  | [] => []
  | x :: l => let u := uniq l; bif u.any (eqS x) then u else x :: u
def grow (s : List (List Nat)) (G : List (List Nat)) : List (List Nat) := uniq (G ++ G.flatMap (fun r => s.map (takeL r)))
def growN (s : List (List Nat)) : Nat → List (List Nat) → List (List Nat)
  | 0,G => G
  | n + 1,G => growN s n (grow s G)
def orb (m g : Nat) : List (List Nat) := growN (swL m g) 6 [rngL m]
def orbOK (m g : Nat) : Bool := Nat.ble (orb m g).length 48 && ((orb m g).any (eqS (rngL m)) && ((orb m g).all fun r => Nat.beq r.length m && (swL m g).all fun s => (orb m g).any (eqS (takeL r s)) && s.all (fun p => Nat.blt p m)))
theorem orbAll : vars.all (fun v => orbOK v.1 v.2) = true := by kernel_rfl
theorem any_mem {x : List Nat} {l : List (List Nat)} : l.any (eqS x) = true ↔ x ∈ l := by
  rw [List.any_eq_true]
  constructor
  · rintro ⟨y,hy,h⟩
    exact eqS_iff.1 h ▸ hy
  · exact fun h => ⟨x,h,eqS_iff.2 rfl⟩
def Reach (m g : Nat) (l0 l : Ls) : Prop := ∃ r ∈ orb m g,l = r.map (nthS l0)
theorem nthS_map' (σ : Nat → List Nat) : ∀ (r : List Nat) (p : Nat),p < r.length → nthS (r.map σ) p = σ (nthN r p)
  | _ :: _,0,_ => rfl
  | _ :: r,p + 1,h => nthS_map' σ r p (Nat.lt_of_succ_lt_succ h)
section
variable {m g : Nat} (hv : (m,g) ∈ vars)
include hv
theorem orb_ok : (orb m g).length ≤ 48 ∧ rngL m ∈ orb m g ∧ ∀ r ∈ orb m g,r.length = m ∧ ∀ s ∈ swL m g,takeL r s ∈ orb m g ∧ ∀ p ∈ s,p < m := by
  have h := List.all_eq_true.1 orbAll _ hv
  simp only [orbOK,Bool.and_eq_true,List.all_eq_true,any_mem] at h
  obtain ⟨h1,h2,h3⟩ := h
  refine ⟨Nat.le_of_ble_eq_true h1,h2,fun r hr => ?_⟩
  obtain ⟨h4,h5⟩ := h3 r hr
  exact ⟨Nat.eq_of_beq_eq_true h4,fun s hs => ⟨(h5 s hs).1,fun p hp => Nat.le_of_ble_eq_true ((h5 s hs).2 p hp)⟩⟩
theorem reach_step {l0 l : Ls} (h : Reach m g l0 l) {s : List Nat} (hs : s ∈ swL m g) : Reach m g l0 (s.map (nthS l)) := by
  obtain ⟨r,hr,rfl⟩ := h
  obtain ⟨h1,h2⟩ := (orb_ok hv).2.2 r hr
  refine ⟨takeL r s,(h2 s hs).1,?_⟩
  rw [takeL,List.map_map]
  exact List.map_congr_left fun p hp => nthS_map' (nthS l0) r p (by rw [h1]; exact (h2 s hs).2 p hp)
end
def rank (m g : Nat) (l0 l : Ls) : Nat := (orb m g).countP (fun r => cmpL (keyS g (r.map (nthS l0))) (keyS g l) = -1)
theorem count_lt {α : Type} {p q : α → Bool} (hpq : ∀ x,p x = true → q x = true) : ∀ {l : List α} {x : α},x ∈ l → q x = true → p x = false → l.countP p < l.countP q
  | a :: l,x,hx,hq,hp => by
    have hle : l.countP p ≤ l.countP q := List.countP_mono_left fun x _ => hpq x
    rcases List.mem_cons.1 hx with rfl | hx
    · rw [List.countP_cons,List.countP_cons,hp,hq]
      simp only [Bool.false_eq_true,if_false,if_true]
      omega
    · have ih := count_lt hpq hx hq hp
      rw [List.countP_cons,List.countP_cons]
      cases h : p a with
      | true =>
        rw [hpq a h]
        simp only [if_true]
        omega
      | false =>
        simp only [Bool.false_eq_true,if_false]
        split <;> omega
theorem rank_lt {m g : Nat} {l0 a b : Ls} (ha : Reach m g l0 a) (h : lessK g a b) : rank m g l0 a < rank m g l0 b := by
  obtain ⟨r,hr,rfl⟩ := ha
  refine count_lt (fun x hx => ?_) hr ?_ ?_
  · have h1 := (cmpL_iff _ _).1.1 (of_decide_eq_true hx)
    exact decide_eq_true ((cmpL_iff _ _).1.2 (List.lt_trans h1 h))
  · exact decide_eq_true ((cmpL_iff _ _).1.2 h)
  · exact decide_eq_false fun e => List.lt_irrefl _ ((cmpL_iff _ _).1.1 e)
theorem rank_le {m g : Nat} (hv : (m,g) ∈ vars) (l0 l : Ls) : rank m g l0 l ≤ 48 := Nat.le_trans List.countP_le_length (orb_ok hv).1
end Go.Abs.Sym
end
section
namespace Go.Abs.Sym
open Go.Abs.T
def lessP (nm : List Nat) (a b : Ls) : List PadD → Nat → Option Bool
  | [],_ => none
  | p :: ps,k => bif eqS p.nm nm && !(eqS (nthS a k) (nthS b k)) then some (bytesLt (nthS a k) (nthS b k)) else lessP nm a b ps (k + 1)
def lessL (ps : List PadD) (a b : Ls) : List Lg → Option Bool
  | [] => none
  | l :: ls => match lessP l.pad a b ps 0 with
    | some r => some r
    | none => lessL ps a b ls
def lessG (ps : List PadD) (a b : Ls) : List GateD → Option Bool
  | [] => none
  | g :: gs => match lessL ps a b g.legs.l with
    | some r => some r
    | none => lessG ps a b gs
def lessF (T : TypD) (a b : Ls) : Bool := match lessG T.pads.l a b T.gates.l with
  | some r => r
  | none => false
def lexO (a b : Ls) : List Nat → Option Bool
  | [] => none
  | j :: js => bif eqS (nthS a j) (nthS b j) then lexO a b js else some (bytesLt (nthS a j) (nthS b j))
theorem nm_eq {i j : Nat} (hi : i < 6) (hj : j < 6) : eqS (nmOf i) (nmOf j) = decide (i = j) := by
  have h : ∀ i : Fin 6,∀ j : Fin 6,eqS (nmOf i) (nmOf j) = decide (i.1 = j.1) := by decide
  exact h ⟨i,hi⟩ ⟨j,hj⟩
theorem lessP_gt {a b : Ls} : ∀ (cs : List (Nat × Nat × Nat)) (k j : Nat),k + cs.length ≤ 6 → j < 6 → j < k → lessP (nmOf j) a b (padsOf k cs) k = none
  | [],k,j,_,_,_ => rfl
  | c :: cs,k,j,h,hj,hlt => by
    simp only [List.length_cons] at h
    simp only [padsOf,lessP,padOf,nm_eq (show k < 6 by omega) hj,decide_eq_false (show ¬ k = j by omega),Bool.false_and,cond_false]
    exact lessP_gt cs (k + 1) j (by omega) hj (by omega)
theorem lessP_at {a b : Ls} : ∀ (cs : List (Nat × Nat × Nat)) (k j : Nat),k + cs.length ≤ 6 → k ≤ j → j < k + cs.length → lessP (nmOf j) a b (padsOf k cs) k = bif eqS (nthS a j) (nthS b j) then none else some (bytesLt (nthS a j) (nthS b j))
  | [],k,j,_,_,h => by simp only [List.length_nil] at h; omega
  | c :: cs,k,j,h,hk,hj => by
    simp only [List.length_cons] at h hj
    simp only [padsOf,lessP,padOf,nm_eq (show k < 6 by omega) (show j < 6 by omega)]
    by_cases e : k = j
    · subst e
      rw [decide_eq_true rfl,lessP_gt cs (k + 1) k (by omega) (by omega) (by omega)]
      cases eqS (nthS a k) (nthS b k) <;> rfl
    · rw [decide_eq_false e]
      exact lessP_at cs (k + 1) j (by omega) (by omega) (by omega)
def lgOf (js : List Nat) (ls : List Lg) : Prop := ls.map (·.pad) = js.map nmOf
theorem lessL_eq {a b : Ls} (cs : List (Nat × Nat × Nat)) (h6 : cs.length ≤ 6) : ∀ (js : List Nat) (ls : List Lg),lgOf js ls → (∀ j ∈ js,j < cs.length) → lessL (padsOf 0 cs) a b ls = lexO a b js
  | [],[],_,_ => rfl
  | [],_ :: _,h,_ => by cases h
  | _ :: _,[],h,_ => by cases h
  | j :: js,l :: ls,h,hj => by
    simp only [lgOf,List.map_cons,List.cons.injEq] at h
    have ih := lessL_eq (a := a) (b := b) cs h6 js ls h.2 (fun j hj' => hj j (List.mem_cons_of_mem _ hj'))
    have hp := lessP_at (a := a) (b := b) cs 0 j (by omega) (Nat.zero_le _) (by have := hj j List.mem_cons_self; omega)
    simp only [lessL,lexO,h.1,hp,ih]
    cases eqS (nthS a j) (nthS b j) <;> rfl
theorem lexO_app (a b : Ls) : ∀ (js ks : List Nat),lexO a b (js ++ ks) = match lexO a b js with | some r => some r | none => lexO a b ks
  | [],ks => rfl
  | j :: js,ks => by
    simp only [List.cons_append,lexO,lexO_app a b js ks]
    cases eqS (nthS a j) (nthS b j) <;> rfl
theorem lessG_eq {a b : Ls} (cs : List (Nat × Nat × Nat)) (h6 : cs.length ≤ 6) : ∀ (gt : List (Nat × List (Nat × Nat))) (gs : List GateD),gs.map (fun x => x.legs.l.map (·.pad)) = gt.map (fun x => (x.2.map (·.1)).map nmOf) → (∀ x ∈ gt,∀ l ∈ x.2,l.1 < cs.length) →
    lessG (padsOf 0 cs) a b gs = lexO a b (gt.flatMap (fun x => x.2.map (·.1)))
  | [],[],_,_ => rfl
  | [],_ :: _,h,_ => by cases h
  | _ :: _,[],h,_ => by cases h
  | x :: gt,g :: gs,h,hj => by
    simp only [List.map_cons,List.cons.injEq] at h
    have ih := lessG_eq (a := a) (b := b) cs h6 gt gs h.2 (fun x hx => hj x (List.mem_cons_of_mem _ hx))
    have h1 := lessL_eq (a := a) (b := b) cs h6 (x.2.map (·.1)) g.legs.l (show lgOf (x.2.map (·.1)) g.legs.l from h.1) (fun j hj' => by
      obtain ⟨l,hl,rfl⟩ := List.mem_map.1 hj'
      exact hj x List.mem_cons_self l hl)
    simp only [lessG,List.flatMap_cons,lexO_app,h1,ih]
theorem lexO_lt (a b : Ls) : ∀ js : List Nat,(match lexO a b js with | some r => r | none => false) = true ↔ js.map (nthS a) < js.map (nthS b)
  | [] => by simp [lexO]
  | j :: js => by
    have ih := lexO_lt a b js
    simp only [lexO,List.map_cons,List.cons_lt_cons_iff]
    cases he : eqS (nthS a j) (nthS b j) with
    | true =>
      have e := eqS_iff.1 he
      simp only [cond_true,ih,e,true_and,li,false_or]
    | false =>
      have e : ¬ nthS a j = nthS b j := fun e => by rw [eqS_iff.2 e] at he; cases he
      simp only [cond_false,bytesLt_iff,e,false_and,or_false]
theorem gs_names : ∀ v ∈ vars,(gsOf v.2).map (fun x => x.legs.l.map (·.pad)) = (gtOf v.2).map (fun x => (x.2.map (·.1)).map nmOf) ∧ ∀ x ∈ gtOf v.2,∀ l ∈ x.2,l.1 < v.1 := by
  decide
theorem lessF_iff {cs : List (Nat × Nat × Nat)} {g : Nat} (hv : (cs.length,g) ∈ vars) (h6 : cs.length ≤ 6) (nm : List Nat) (a b : Ls) : lessF (tyOf nm cs (gsOf g)) a b = true ↔ lessK g a b := by
  obtain ⟨h1,h2⟩ := gs_names _ hv
  simp only [lessF,tyOf,lessG_eq cs h6 (gtOf g) (gsOf g) h1 h2]
  exact lexO_lt a b (ordP g)
end Go.Abs.Sym
end
section
namespace Go.Abs.T
open AV
set_option maxRecDepth 100000
def c5_l0 : ACode := (.seq (.reg [⟨s55,.bin .lss .one,[v54,v53],none⟩]) (.seq (.cond (v55) .skip (.exit 6)) (.seq (.block 7 (.seq (.reg [⟨s56,.indexAddr (.slc 1),[v52,v54],none⟩,⟨s57,.load none,[v56],none⟩,⟨s17,.mov,[v57],none⟩]) (.seq (.reg [⟨s59,.load (some 3),[v4],none⟩,⟨s60,.mov,[v9],none⟩,⟨s61,.fieldAddr 0,[v13],none⟩,⟨s62,.load none,[v61],none⟩,⟨s63,.fieldAddr 0,[v15],none⟩,⟨s64,.load none,[v63],none⟩,⟨s65,.mov,[v17],none⟩,⟨s66,.build [e0,e0,e0,(bool false)] [(1,1),(2,1),(3,1)],[v62,v64,v65],none⟩,⟨s67,.call,[.const (g t9),v59,v60,v66],none⟩,⟨s58,.mov,[v67],none⟩,⟨s68,.extract 0,[v58],none⟩,⟨s69,.extract 1,[v58],none⟩,⟨s18,.mov,[v68],none⟩,⟨s19,.mov,[v69],none⟩]) (.seq (.reg [⟨s70,.mov,[v19],none⟩,⟨s71,.bin .eql .one,[v70,.const i0],none⟩,⟨s72,.mov,[v71],none⟩,⟨s73,.mov,[v18],(some (t72,true))⟩,⟨s74,.mov,[v9],(some (t72,true))⟩,⟨s75,.load (some 3),[v4],(some (t72,true))⟩,⟨s76,.call,[.const (g t13),v73,v74,v75],(some (t72,true))⟩,⟨s77,.pick,[v72,v76,.const (bool false)],none⟩]) (.cond (v77) (.reg [⟨s78,.mov,[v18],none⟩,⟨s9,.mov,[v78],none⟩,⟨s11,.mov,[.const (bool true)],none⟩]) .skip))))) (.reg [⟨s79,.bin .add .one,[v54,.const i1],none⟩,⟨s54,.mov,[v79],none⟩]))))
def c5_l1 : ACode := (.seq (.reg [⟨s49,.bin .lss .one,[v48,v47],none⟩]) (.seq (.cond (v49) .skip (.exit 4)) (.seq (.block 5 (.seq (.reg [⟨s50,.indexAddr (.slc 7),[v46,v48],none⟩,⟨s51,.load (some 7),[v50],none⟩,⟨s15,.alloc [e0,i0,nils,i0,i0,i0,i0],[],none⟩,⟨none,.store 7,[v15,v51],none⟩]) (.seq (.reg [⟨s52,.buildSl 2 1 [(bool false),(bool false)] [0,1],[.const (bool false),.const (bool true)],none⟩,⟨s53,.len .slc,[v52],none⟩,⟨s54,.mov,[.const i0],none⟩]) (.block 6 (.loop c5_l0))))) (.reg [⟨s80,.bin .add .one,[v48,.const i1],none⟩,⟨s48,.mov,[v80],none⟩]))))
def c5_l2 : ACode := (.seq (.reg [⟨s42,.bin .lss .one,[v41,v40],none⟩]) (.seq (.cond (v42) .skip (.exit 2)) (.seq (.block 3 (.seq (.reg [⟨s43,.indexAddr (.slc 7),[v39,v41],none⟩,⟨s44,.load (some 7),[v43],none⟩,⟨s13,.alloc [e0,i0,nils,i0,i0,i0,i0],[],none⟩,⟨none,.store 7,[v13,v44],none⟩]) (.seq (.reg [⟨s45,.fieldAddr 1,[v4],none⟩,⟨s46,.load none,[v45],none⟩,⟨s47,.len .slc,[v46],none⟩,⟨s48,.mov,[.const i0],none⟩]) (.block 4 (.loop c5_l1))))) (.reg [⟨s81,.bin .add .one,[v41,.const i1],none⟩,⟨s41,.mov,[v81],none⟩]))))
def c5_l3 : ACode := (.seq (.seq (.reg [⟨s34,.mov,[v10],none⟩,⟨s35,.bin .lss .one,[v34,.const (int .i64 (.ofNat 100))],none⟩]) (.cond (v35) .skip (.exit 0))) (.seq (.block 1 (.seq (.reg [⟨s11,.mov,[.const (bool false)],none⟩]) (.seq (.seq (.reg [⟨s38,.fieldAddr 1,[v4],none⟩,⟨s39,.load none,[v38],none⟩,⟨s40,.len .slc,[v39],none⟩,⟨s41,.mov,[.const i0],none⟩]) (.block 2 (.loop c5_l2))) (.seq (.reg [⟨s82,.mov,[v11],none⟩,⟨s83,.un .not,[v82],none⟩]) (.cond (v83) (.exit 0) .skip))))) (.reg [⟨s36,.mov,[v10],none⟩,⟨s37,.bin .add .one,[v36,.const i1],none⟩,⟨s10,.mov,[v37],none⟩])))
theorem c5_eq : c5 = ⟨93,[.tmp t2],(.seq (.reg [⟨s1,.box,[v0],none⟩,⟨s2,.mov,[.const (bool false)],none⟩]) (.seq (.reg [⟨s20,.call,[.const (g t6)],none⟩,⟨s3,.mov,[v20],none⟩]) (.seq (.reg [⟨s22,.load (some 9),[v1],none⟩,⟨s23,.call,[.const (g t7),v22],none⟩,⟨s21,.mov,[v23],none⟩,⟨s24,.extract 0,[v21],none⟩,⟨s25,.extract 1,[v21],none⟩,⟨s26,.extract 2,[v21],none⟩,⟨s4,.alloc [e0,nils,nils],[],none⟩,⟨none,.store 3,[v4,v24],none⟩,⟨s5,.mov,[v25],none⟩,⟨s6,.mov,[v26],none⟩]) (.seq (.reg [⟨s28,.load (some 3),[v4],none⟩,⟨s29,.mov,[v5],none⟩,⟨s30,.call,[.const (g t10),v28,v29],none⟩,⟨s27,.mov,[v30],none⟩,⟨s31,.extract 0,[v27],none⟩,⟨s32,.extract 1,[v27],none⟩,⟨s7,.mov,[v31],none⟩,⟨s8,.mov,[v32],none⟩]) (.seq (.reg [⟨s33,.mov,[v5],none⟩,⟨s9,.mov,[v33],none⟩]) (.seq (.seq (.reg [⟨s10,.mov,[.const i0],none⟩]) (.block 0 (.loop c5_l3))) (.seq (.reg [⟨s84,.mov,[v3],none⟩,⟨s85,.mov,[v84],none⟩,⟨s86,.mov,[v8],(some (t85,true))⟩,⟨s87,.pick,[v85,v86,.const (bool false)],none⟩,⟨s88,.mov,[v87],none⟩,⟨s89,.mov,[v9],(some (t88,true))⟩,⟨s90,.mov,[v7],(some (t88,true))⟩,⟨s91,.call,[.const (g t11),v89,v90],(some (t88,true))⟩,⟨s92,.pick,[v88,v91,.const (bool false)],none⟩,⟨s2,.mov,[v92],none⟩]) .ret)))))))⟩ := rfl
def c13_l0 : ACode := (.seq (.reg [⟨s45,.bin .lss .one,[v44,v43],none⟩]) (.seq (.cond (v45) .skip (.exit 4)) (.seq (.block 5 (.seq (.reg [⟨s46,.mov,[v44],none⟩,⟨s47,.indexAddr (.slc 7),[v42,v44],none⟩,⟨s48,.load (some 7),[v47],none⟩,⟨s12,.alloc [e0,i0,nils,i0,i0,i0,i0],[],none⟩,⟨s11,.mov,[v46],none⟩,⟨none,.store 7,[v12,v48],none⟩]) (.seq (.dreg [⟨⟨s49,.fieldAddr 0,[v12],none⟩,false,0,16,false,[],false⟩,⟨⟨s50,.load none,[v49],none⟩,false,0,16,false,[],false⟩,⟨⟨s51,.fieldAddr 0,[v10],none⟩,false,0,16,false,[],false⟩,⟨⟨s52,.load none,[v51],none⟩,false,0,16,false,[],false⟩,⟨⟨s53,.bin .eql .one,[v50,v52],none⟩,false,0,16,false,[],false⟩,⟨⟨s54,.mov,[v53],none⟩,false,0,16,false,[],false⟩,⟨⟨s55,.mov,[v0],(some (t54,true))⟩,false,0,16,false,[],false⟩,⟨⟨s56,.mov,[v11],(some (t54,true))⟩,false,0,16,false,[],false⟩,⟨⟨s57,.indexAddr (.slc 1),[v55,v56],(some (t54,true))⟩,false,0,16,false,[],false⟩,⟨⟨s58,.load none,[v57],(some (t54,true))⟩,false,0,16,false,[],false⟩,⟨⟨s59,.mov,[v1],(some (t54,true))⟩,false,0,16,false,[],false⟩,⟨⟨s60,.mov,[v11],(some (t54,true))⟩,false,0,16,false,[],false⟩,⟨⟨s61,.indexAddr (.slc 1),[v59,v60],(some (t54,true))⟩,false,0,16,false,[],false⟩,⟨⟨s62,.load none,[v61],(some (t54,true))⟩,false,0,16,false,[],false⟩,⟨⟨s63,.bin .neq .one,[v58,v62],(some (t54,true))⟩,false,0,16,false,[],false⟩,⟨⟨s64,.pick,[v54,v63,.const (bool false)],none⟩,false,0,16,false,[],true⟩]) (.cond (v64) (.seq (.dreg [⟨⟨s65,.mov,[v0],none⟩,false,0,10,false,[],false⟩,⟨⟨s66,.mov,[v11],none⟩,false,0,10,false,[],false⟩,⟨⟨s67,.indexAddr (.slc 1),[v65,v66],none⟩,false,0,10,false,[],false⟩,⟨⟨s68,.load none,[v67],none⟩,false,0,10,false,[],false⟩,⟨⟨s69,.mov,[v1],none⟩,false,0,10,false,[],false⟩,⟨⟨s70,.mov,[v11],none⟩,false,0,10,false,[],false⟩,⟨⟨s71,.indexAddr (.slc 1),[v69,v70],none⟩,false,0,10,false,[],false⟩,⟨⟨s72,.load none,[v71],none⟩,false,0,10,false,[],false⟩,⟨⟨s73,.bin .lss .one,[v68,v72],none⟩,false,0,10,false,[],false⟩,⟨⟨s6,.mov,[v73],none⟩,false,0,10,false,[],true⟩]) .ret) .skip)))) (.reg [⟨s74,.bin .add .one,[v44,.const i1],none⟩,⟨s44,.mov,[v74],none⟩]))))
def c13_l1 : ACode := (.seq (.reg [⟨s38,.bin .lss .one,[v37,v36],none⟩]) (.seq (.cond (v38) .skip (.exit 2)) (.seq (.block 3 (.seq (.reg [⟨s39,.indexAddr (.slc 2),[v35,v37],none⟩,⟨s40,.load (some 2),[v39],none⟩,⟨s10,.alloc [e0,i0],[],none⟩,⟨none,.store 2,[v10,v40],none⟩]) (.seq (.reg [⟨s41,.fieldAddr 1,[v5],none⟩,⟨s42,.load none,[v41],none⟩,⟨s43,.len .slc,[v42],none⟩,⟨s44,.mov,[.const i0],none⟩]) (.block 4 (.loop c13_l0))))) (.reg [⟨s75,.bin .add .one,[v37,.const i1],none⟩,⟨s37,.mov,[v75],none⟩]))))
def c13_l2 : ACode := (.seq (.reg [⟨s31,.bin .lss .one,[v30,v29],none⟩]) (.seq (.cond (v31) .skip (.exit 0)) (.seq (.block 1 (.seq (.reg [⟨s32,.indexAddr (.slc 2),[v28,v30],none⟩,⟨s33,.load (some 2),[v32],none⟩,⟨s8,.alloc [i0,nils],[],none⟩,⟨none,.store 2,[v8,v33],none⟩]) (.seq (.reg [⟨s34,.fieldAddr 1,[v8],none⟩,⟨s35,.load none,[v34],none⟩,⟨s36,.len .slc,[v35],none⟩,⟨s37,.mov,[.const i0],none⟩]) (.block 2 (.loop c13_l1))))) (.reg [⟨s76,.bin .add .one,[v30,.const i1],none⟩,⟨s30,.mov,[v76],none⟩]))))
theorem c13_eq : c13 = ⟨77,[.tmp t6],(.seq (.reg [⟨s5,.box,[v2],none⟩,⟨s6,.mov,[.const (bool false)],none⟩]) (.seq (.seq (.reg [⟨s13,.mov,[v0],none⟩,⟨s14,.len .slc,[v13],none⟩,⟨s15,.fieldAddr 1,[v5],none⟩,⟨s16,.load none,[v15],none⟩,⟨s17,.len .slc,[v16],none⟩,⟨s18,.bin .neq .one,[v14,v17],none⟩,⟨s19,.mov,[v18],none⟩,⟨s20,.mov,[v1],(some (t19,false))⟩,⟨s21,.len .slc,[v20],(some (t19,false))⟩,⟨s22,.fieldAddr 1,[v5],(some (t19,false))⟩,⟨s23,.load none,[v22],(some (t19,false))⟩,⟨s24,.len .slc,[v23],(some (t19,false))⟩,⟨s25,.bin .neq .one,[v21,v24],(some (t19,false))⟩,⟨s26,.pick,[v19,.const (bool true),v25],none⟩]) (.cond (v26) (.seq (.reg [⟨s6,.mov,[.const (bool false)],none⟩]) .ret) .skip)) (.seq (.seq (.reg [⟨s27,.fieldAddr 2,[v5],none⟩,⟨s28,.load none,[v27],none⟩,⟨s29,.len .slc,[v28],none⟩,⟨s30,.mov,[.const i0],none⟩]) (.block 0 (.loop c13_l2))) (.seq (.reg [⟨s6,.mov,[.const (bool false)],none⟩]) .ret))))⟩ := rfl
end Go.Abs.T
end
section
namespace Go.Abs.Sym
open Go.Abs.T
open Go.Proofs
theorem nthS_get {l : Ls} {k : Nat} {x : List Nat} (h : l[k]? = some x) : nthS l k = x := by
  induction l generalizing k with
  | nil => cases h
  | cons a l ih =>
    cases k with
    | zero => cases h; rfl
    | succ k => exact ih h
theorem lessP_step {nm : List Nat} {a b : Ls} {ps : List PadD} {k : Nat} {x : PadD} (h : ps[k]? = some x) : lessP nm a b (ps.drop k) k = bif eqS x.nm nm && !(eqS (nthS a k) (nthS b k)) then some (bytesLt (nthS a k) (nthS b k)) else lessP nm a b (ps.drop (k + 1)) (k + 1) := by
  obtain ⟨hk,rfl⟩ := List.getElem?_eq_some_iff.1 h
  rw [List.drop_eq_getElem_cons hk]
  rfl
theorem lessL_step {ps : List PadD} {a b : Ls} {ls : List Lg} {k : Nat} {x : Lg} (h : ls[k]? = some x) : lessL ps a b (ls.drop k) = match lessP x.pad a b ps 0 with | some r => some r | none => lessL ps a b (ls.drop (k + 1)) := by
  obtain ⟨hk,rfl⟩ := List.getElem?_eq_some_iff.1 h
  rw [List.drop_eq_getElem_cons hk]
  rfl
theorem lessG_step {ps : List PadD} {a b : Ls} {gs : List GateD} {k : Nat} {x : GateD} (h : gs[k]? = some x) : lessG ps a b (gs.drop k) = match lessL ps a b x.legs.l with | some r => some r | none => lessG ps a b (gs.drop (k + 1)) := by
  obtain ⟨hk,rfl⟩ := List.getElem?_eq_some_iff.1 h
  rw [List.drop_eq_getElem_cons hk]
  rfl
section
variable (T : TypD) (a b : Ls)
def LA (fr : Tr AV) (t : Tr AB) (kg : Nat) : Prop := fr.get t0 = some (slV strC ⟨1,a⟩) ∧ fr.get t1 = some (slV strC ⟨1,b⟩) ∧ fr.get t5 = some (.ptr (up Pth.e 0) 0) ∧ t.get (up Pth.e 0) = some (.cells [.str T.nm,slV padC T.pads,slV gateC T.gates] false) ∧
  fr.get t28 = some (slV gateC T.gates) ∧ fr.get t29 = some (.int .i64 (.ofNat T.gates.l.length)) ∧ fr.get t30 = some (.int .i64 (.ofNat kg))
def LB (fr : Tr AV) (t : Tr AB) (kg : Nat) (ls : Sl Lg) (kl : Nat) : Prop := LA T a b fr t kg ∧ fr.get t35 = some (slV lgC ls) ∧ fr.get t36 = some (.int .i64 (.ofNat ls.l.length)) ∧ fr.get t37 = some (.int .i64 (.ofNat kl))
def LC (fr : Tr AV) (t : Tr AB) (nx kg : Nat) (ls : Sl Lg) (kl lb : Nat) (L : Lg) (kp : Nat) : Prop := LB T a b fr t kg ls kl ∧ fr.get t10 = some (.ptr (up Pth.e lb) 0) ∧ t.get (up Pth.e lb) = some (.cells [.str L.pad,.int .i64 L.gr] false) ∧
  fr.get t42 = some (slV padC T.pads) ∧ fr.get t43 = some (.int .i64 (.ofNat T.pads.l.length)) ∧ fr.get t44 = some (.int .i64 (.ofNat kp)) ∧ 0 < lb ∧ lb < nx
abbrev stL (fr : Tr AV) (t : Tr AB) (nx : Nat) : St := ⟨fr,[],⟨up Pth.e nx,t,.lf⟩,.no,none,t13⟩
def QP (nx kg : Nat) (ls : Sl Lg) (kl : Nat) (L : Lg) (o : Out) : Prop := ∃ fr t nx',(o = .exit 4 (stL fr t nx') ∧ nx ≤ nx' ∧ LB T a b fr t kg ls kl ∧ lessP L.pad a b T.pads.l 0 = none) ∨ ∃ r,(o = .ret (stL fr t nx') ∧ fr.get t6 = some (.bool r) ∧ lessP L.pad a b T.pads.l 0 = some r)
def QL (nx kg : Nat) (ls : Sl Lg) (o : Out) : Prop := ∃ fr t nx',(o = .exit 2 (stL fr t nx') ∧ nx ≤ nx' ∧ LA T a b fr t kg ∧ lessL T.pads.l a b ls.l = none) ∨ ∃ r,(o = .ret (stL fr t nx') ∧ fr.get t6 = some (.bool r) ∧ lessL T.pads.l a b ls.l = some r)
def QG (o : Out) : Prop := ∃ fr t nx',(o = .exit 0 (stL fr t nx') ∧ lessG T.pads.l a b T.gates.l = none) ∨ ∃ r,(o = .ret (stL fr t nx') ∧ fr.get t6 = some (.bool r) ∧ lessG T.pads.l a b T.gates.l = some r)
variable {T a b}
variable {X : Ctx} {call : CallF} (hfu : X.fuel = 100000) (hl : T.pads.l.length < 90000) (ha : a.length = T.pads.l.length) (hb : b.length = T.pads.l.length)
include hl ha hb in
set_option maxHeartbeats 2000000 in
theorem less_l0 {fr : Tr AV} {t : Tr AB} {nx kg kl lb : Nat} {ls : Sl Lg} {L : Lg} (h : LC T a b fr t nx kg ls kl lb L 0) : QP T a b nx kg ls kl L (iterA (execA X call c13_l0) 100000 (stL fr t nx)) := by
  refine iter_rule (fun m s => ∃ fr t nx' k,s = stL fr t nx' ∧ nx ≤ nx' ∧ k + m = T.pads.l.length ∧ lessP L.pad a b T.pads.l 0 = lessP L.pad a b (T.pads.l.drop k) k ∧ LC T a b fr t nx' kg ls kl lb L k) (QP T a b nx kg ls kl L) ?_ 100000 T.pads.l.length _ ⟨fr,t,nx,0,rfl,Nat.le_refl _,by omega,rfl,h⟩ (by omega)
  rintro m s ⟨fr,t,nx',k,rfl,hnx,hk,hpl,⟨⟨⟨g0,g1,g5,gt,g28,g29,g30⟩,g35,g36,g37⟩,g10,gl,g42,g43,g44,hlb,hln⟩⟩
  have h0 : ¬ (0 : Nat) = nx' := by omega
  have h1 : ¬ lb = nx' := by omega
  have h2 : ¬ nx' = lb := by omega
  have h3 : ¬ nx' = 0 := by omega
  cases m with
  | zero =>
    have hkn : (k < T.pads.l.length) = False := eq_false (by omega)
    simp +decide only [c13_l0,execA,opsA,wantedA,evalAll,evalA,oneA,st_bin,binAV,St.put,Tr.get_put,if_true,cond_true,nbeq,decide_true,decide_false,eqK,kindNo,g43,g44,ltI_dec,hkn,stp_e]
    refine ⟨_,_,_,.inl ⟨rfl,hnx,⟨⟨?_,?_,?_,gt,?_,?_,?_⟩,?_,?_,?_⟩,?_⟩⟩
    case refine_10 =>
      rw [hpl,List.drop_of_length_le (by omega)]
      rfl
    all_goals simp +decide only [Tr.get_put,g0,g1,g5,g28,g29,g30,g35,g36,g37,if_false]
  | succ m =>
    have hkn : (k < T.pads.l.length) = True := eq_true (by omega)
    obtain ⟨x,hx⟩ : ∃ x,T.pads.l[k]? = some x := ⟨_,List.getElem?_eq_getElem (by omega)⟩
    obtain ⟨xa,hxa⟩ : ∃ x,a[k]? = some x := ⟨_,List.getElem?_eq_getElem (by omega)⟩
    obtain ⟨xb,hxb⟩ : ∃ x,b[k]? = some x := ⟨_,List.getElem?_eq_getElem (by omega)⟩
    have ip := at_slV (f := padC) (sz := 7) len_pad (by decide) hx
    have ia := at_slV (f := strC) (sz := 1) (s := ⟨1,a⟩) (fun _ => rfl) (by decide) hxa
    have ib := at_slV (f := strC) (sz := 1) (s := ⟨1,b⟩) (fun _ => rfl) (by decide) hxb
    have hw := wr_add k 1 (by omega)
    rw [lessP_step hx,nthS_get hxa,nthS_get hxb] at hpl
    simp only [strC] at ia ib
    cases he : eqS x.nm L.pad with
    | false =>
      simp only [he,Bool.false_and,cond_false] at hpl
      simp +decide only [c13_l0,execA,opsA,wantedA,evalAll,evalA,oneA,dregA,dopsA,dstep,isMaker,withP_nil,takesP_nil,leavesP_nil,rd_mov,rd_pick,rd_load,rd_bin,rd_fieldp,st_mov,st_alloc,st_load,st_store,st_bin,st_fieldAddr,st_indexAddr,st_pick,ld_ptr,ld_rs,H.cellsAt,H.newB,partA,tk_0,tk_c,storeA,setAt,ones,cl_agg,on_int,on_str,on_slV,binAV,eqAV,St.put,Tr.get_put,List.nil_append,List.cons_append,if_true,if_false,cond_true,cond_false,Nat.zero_add,Nat.add_zero,skip_up0,up_up,up_succ,up_inj,List.length,seesHeap,quiet,nbeq,decide_true,Nat.reduceAdd,Bool.and_false,Bool.or_true,List.all,eqK,kindNo,Option.map_some,beq_t,Bool.and_self,Nat.add_assoc,padC,g10,gl,g42,g43,g44,ltI_dec,hkn,ip,he,hw,h1,stp_n]
      refine ⟨m,by omega,_,_,_,k + 1,rfl,by omega,by omega,hpl,⟨⟨⟨?_,?_,?_,?_,?_,?_,?_⟩,?_,?_,?_⟩,?_,?_,?_,?_,?_,hlb,by omega⟩⟩
      all_goals simp +decide only [Tr.get_put,g0,g1,g5,gt,g28,g29,g30,g35,g36,g37,g10,gl,g42,g43,g44,up_inj,h0,h1,if_true,if_false]
    | true =>
      cases hd : eqS xa xb with
      | true =>
        simp only [he,hd,Bool.not_true,Bool.and_false,cond_false] at hpl
        simp +decide only [c13_l0,execA,opsA,wantedA,evalAll,evalA,oneA,dregA,dopsA,dstep,isMaker,withP_nil,takesP_nil,leavesP_nil,rd_mov,rd_pick,rd_load,rd_bin,rd_fieldp,rd_indexAddr,st_mov,st_alloc,st_load,st_store,st_bin,st_fieldAddr,st_indexAddr,st_pick,ld_ptr,ld_rn,ld_rs,H.cellsAt,H.newB,partA,tk_0,tk_c,storeA,setAt,ones,cl_agg,on_int,on_str,on_slV,binAV,eqAV,St.put,Tr.get_put,List.nil_append,List.cons_append,if_true,if_false,cond_true,cond_false,Nat.zero_add,Nat.add_zero,skip_up0,up_up,up_succ,up_inj,List.length,seesHeap,quiet,nbeq,decide_true,Nat.reduceAdd,Bool.and_false,Bool.or_true,Bool.not_true,List.all,eqK,kindNo,Option.map_some,beq_self_eq_true,Bool.and_self,Nat.add_assoc,padC,g0,g1,g10,gl,g42,g43,g44,ltI_dec,hkn,ip,ia,ib,he,hd,hw,h1,stp_n]
        refine ⟨m,by omega,_,_,_,k + 1,rfl,by omega,by omega,hpl,⟨⟨⟨?_,?_,?_,?_,?_,?_,?_⟩,?_,?_,?_⟩,?_,?_,?_,?_,?_,hlb,by omega⟩⟩
        all_goals simp +decide only [Tr.get_put,g0,g1,g5,gt,g28,g29,g30,g35,g36,g37,g10,gl,g42,g43,g44,up_inj,h0,h1,if_true,if_false]
      | false =>
        simp only [he,hd,Bool.not_false,Bool.and_self,cond_true] at hpl
        simp +decide only [c13_l0,execA,opsA,wantedA,evalAll,evalA,oneA,dregA,dopsA,dstep,isMaker,withP_nil,takesP_nil,leavesP_nil,rd_mov,rd_pick,rd_load,rd_bin,rd_fieldp,rd_indexAddr,st_mov,st_alloc,st_load,st_store,st_bin,st_fieldAddr,st_indexAddr,st_pick,ld_ptr,ld_rn,ld_rs,H.cellsAt,H.newB,partA,tk_0,tk_c,storeA,setAt,ones,cl_agg,on_int,on_str,on_slV,binAV,eqAV,St.put,Tr.get_put,List.nil_append,List.cons_append,if_true,if_false,cond_true,cond_false,Nat.zero_add,Nat.add_zero,skip_up0,up_up,up_succ,up_inj,List.length,seesHeap,quiet,nbeq,decide_true,Nat.reduceAdd,Bool.and_false,Bool.or_true,Bool.not_false,List.all,eqK,kindNo,Option.map_some,beq_self_eq_true,Bool.and_self,Nat.add_assoc,padC,g0,g1,g10,gl,g42,g43,g44,ltI_dec,hkn,ip,ia,ib,he,hd,h1,stp_r]
        exact ⟨_,_,_,.inr ⟨_,rfl,by simp +decide only [Tr.get_put,if_true,reduceIte],hpl⟩⟩
include hfu hl ha hb in
set_option maxHeartbeats 2000000 in
theorem less_l1 {fr : Tr AV} {t : Tr AB} {nx kg : Nat} {ls : Sl Lg} (hls : ls.l.length < 90000) (h0n : 0 < nx) (h : LB T a b fr t kg ls 0) : QL T a b nx kg ls (iterA (execA X call c13_l1) 100000 (stL fr t nx)) := by
  refine iter_rule (fun m s => ∃ fr t nx' k,s = stL fr t nx' ∧ nx ≤ nx' ∧ k + m = ls.l.length ∧ lessL T.pads.l a b ls.l = lessL T.pads.l a b (ls.l.drop k) ∧ LB T a b fr t kg ls k) (QL T a b nx kg ls) ?_ 100000 ls.l.length _ ⟨fr,t,nx,0,rfl,Nat.le_refl _,by omega,rfl,h⟩ (by omega)
  rintro m s ⟨fr,t,nx',k,rfl,hnx,hk,hpl,⟨⟨g0,g1,g5,gt,g28,g29,g30⟩,g35,g36,g37⟩⟩
  have h0 : ¬ (0 : Nat) = nx' := by omega
  have h3 : ¬ nx' = 0 := by omega
  cases m with
  | zero =>
    have hkn : (k < ls.l.length) = False := eq_false (by omega)
    simp +decide only [c13_l1,execA,opsA,wantedA,evalAll,evalA,oneA,st_bin,binAV,St.put,Tr.get_put,if_true,cond_true,nbeq,decide_true,decide_false,eqK,kindNo,g36,g37,ltI_dec,hkn,stp_e]
    refine ⟨_,_,_,.inl ⟨rfl,hnx,⟨?_,?_,?_,gt,?_,?_,?_⟩,?_⟩⟩
    case refine_7 =>
      rw [hpl,List.drop_of_length_le (by omega)]
      rfl
    all_goals simp +decide only [Tr.get_put,g0,g1,g5,g28,g29,g30,if_false]
  | succ m =>
    have hkn : (k < ls.l.length) = True := eq_true (by omega)
    obtain ⟨x,hx⟩ : ∃ x,ls.l[k]? = some x := ⟨_,List.getElem?_eq_getElem (by omega)⟩
    have ip := at_slV (f := lgC) (sz := 2) len_lg (by decide) hx
    have hw := wr_add k 1 (by omega)
    rw [lessL_step hx] at hpl
    simp +decide only [c13_l1,execA,opsA,wantedA,evalAll,evalA,oneA,st_mov,st_alloc,st_load,st_store,st_bin,st_fieldAddr,st_indexAddr,st_len,ld_ptr,ld_rs,H.cellsAt,H.newB,partA,tk_s,tk_0,tk_c,storeA,setAt,ones,cl_agg,on_int,on_str,binAV,St.put,Tr.get_put,List.nil_append,List.cons_append,if_true,if_false,cond_true,Nat.zero_add,up_succ,up_inj,List.length,nbeq,decide_true,Nat.reduceAdd,eqK,kindNo,Option.map_some,Bool.and_self,lgC,len_slV,g5,gt,g35,g36,g37,ltI_dec,hkn,ip,h0,hfu]
    generalize hit : iterA (execA X call c13_l0) 100000 _ = o
    have hq : QP T a b (nx' + 1) kg ls k x o := by
      rw [← hit]
      refine less_l0 hl ha hb (lb := nx') ⟨⟨⟨?_,?_,?_,?_,?_,?_,?_⟩,?_,?_,?_⟩,?_,?_,?_,?_,?_,by omega,by omega⟩
      all_goals simp +decide only [Tr.get_put,g0,g1,g5,gt,g28,g29,g30,g35,g36,g37,up_inj,h0,if_true,if_false]
    obtain ⟨fr,t,nx2,⟨rfl,h5,⟨⟨g0,g1,g5,gt,g28,g29,g30⟩,g35,g36,g37⟩,h6⟩ | ⟨r,rfl,h5,h6⟩⟩ := hq
    · rw [h6] at hpl
      simp +decide only [st_mov,st_bin,binAV,Tr.get_put,if_true,cond_true,nbeq,decide_true,eqK,kindNo,g37,hw,stp_n]
      refine ⟨m,by omega,_,_,nx2,k + 1,rfl,by omega,by omega,hpl,⟨⟨?_,?_,?_,gt,?_,?_,?_⟩,?_,?_,?_⟩⟩
      all_goals simp +decide only [Tr.get_put,g0,g1,g5,g28,g29,g30,g35,g36,g37,if_true,if_false]
    · rw [h6] at hpl
      simp +decide only [stp_r]
      exact ⟨_,_,_,.inr ⟨_,rfl,h5,hpl⟩⟩
include hfu hl ha hb in
set_option maxHeartbeats 2000000 in
theorem less_l2 {fr : Tr AV} {t : Tr AB} {nx : Nat} (hgl : T.gates.l.length < 90000) (hls : ∀ g ∈ T.gates.l,g.legs.l.length < 90000) (h0n : 0 < nx) (h : LA T a b fr t 0) : QG T a b (iterA (execA X call c13_l2) 100000 (stL fr t nx)) := by
  refine iter_rule (fun m s => ∃ fr t nx' k,s = stL fr t nx' ∧ nx ≤ nx' ∧ k + m = T.gates.l.length ∧ lessG T.pads.l a b T.gates.l = lessG T.pads.l a b (T.gates.l.drop k) ∧ LA T a b fr t k) (QG T a b) ?_ 100000 T.gates.l.length _ ⟨fr,t,nx,0,rfl,Nat.le_refl _,by omega,rfl,h⟩ (by omega)
  rintro m s ⟨fr,t,nx',k,rfl,hnx,hk,hpl,⟨g0,g1,g5,gt,g28,g29,g30⟩⟩
  have h0 : ¬ (0 : Nat) = nx' := by omega
  have h3 : ¬ nx' = 0 := by omega
  cases m with
  | zero =>
    have hkn : (k < T.gates.l.length) = False := eq_false (by omega)
    simp +decide only [c13_l2,execA,opsA,wantedA,evalAll,evalA,oneA,st_bin,binAV,St.put,Tr.get_put,if_true,cond_true,nbeq,decide_true,decide_false,eqK,kindNo,g29,g30,ltI_dec,hkn,stp_e]
    refine ⟨_,_,_,.inl ⟨rfl,?_⟩⟩
    rw [hpl,List.drop_of_length_le (by omega)]
    rfl
  | succ m =>
    have hkn : (k < T.gates.l.length) = True := eq_true (by omega)
    obtain ⟨x,hx⟩ : ∃ x,T.gates.l[k]? = some x := ⟨_,List.getElem?_eq_getElem (by omega)⟩
    have ip := at_slV (f := gateC) (sz := 2) len_gate (by decide) hx
    have hw := wr_add k 1 (by omega)
    rw [lessG_step hx] at hpl
    simp +decide only [c13_l2,execA,opsA,wantedA,evalAll,evalA,oneA,st_mov,st_alloc,st_load,st_store,st_bin,st_fieldAddr,st_indexAddr,st_len,ld_ptr,ld_rs,H.cellsAt,H.newB,partA,tk_s,tk_0,tk_c,storeA,setAt,ones,cl_agg,on_int,on_slV,binAV,St.put,Tr.get_put,List.nil_append,List.cons_append,if_true,if_false,cond_true,Nat.zero_add,up_succ,List.length,nbeq,decide_true,Nat.reduceAdd,eqK,kindNo,Option.map_some,Bool.and_self,gateC,len_slV,g28,g29,g30,ltI_dec,hkn,ip,hfu]
    generalize hit : iterA (execA X call c13_l1) 100000 _ = o
    have hq : QL T a b (nx' + 1) k x.legs o := by
      rw [← hit]
      refine less_l1 hfu hl ha hb (hls x (List.mem_of_getElem? hx)) (by omega) ⟨⟨?_,?_,?_,?_,?_,?_,?_⟩,?_,?_,?_⟩
      all_goals simp +decide only [Tr.get_put,g0,g1,g5,gt,g28,g29,g30,up_inj,h0,if_true,if_false]
    obtain ⟨fr,t,nx2,⟨rfl,h5,⟨g0,g1,g5,gt,g28,g29,g30⟩,h6⟩ | ⟨r,rfl,h5,h6⟩⟩ := hq
    · rw [h6] at hpl
      simp +decide only [st_mov,st_bin,binAV,Tr.get_put,if_true,cond_true,nbeq,decide_true,eqK,kindNo,g30,hw,stp_n]
      refine ⟨m,by omega,_,_,nx2,k + 1,rfl,by omega,by omega,hpl,⟨?_,?_,?_,gt,?_,?_,?_⟩⟩
      all_goals simp +decide only [Tr.get_put,g0,g1,g5,g28,g29,g30,if_true,if_false]
    · rw [h6] at hpl
      simp +decide only [stp_r]
      exact ⟨_,_,_,.inr ⟨_,rfl,h5,hpl⟩⟩
include hfu hl ha hb in
set_option maxHeartbeats 2000000 in
theorem less13 {n : Nat} (hs : X.sums t13 [strsV a,strsV b,.agg (tyC T)] h0 = none) (hF : X.funcs.get t13 = some c13) (hgl : T.gates.l.length < 90000) (hls : ∀ g ∈ T.gates.l,g.legs.l.length < 90000) :
    Ret (callN X (n + 1) (.fn t13 [] []) [strsV a,strsV b,.agg (tyC T)] h0) (fun v _ => v = .bool (lessF T a b)) := by
  refine begin3 hs hF fun fr t ga gb gc => ?_
  have e : ∀ k : Nat,eqI (.ofNat k) (.ofNat k) = true := fun k => by rw [eqI,nbeq]; exact decide_eq_true rfl
  rw [c13_eq]
  rw [strsV_eq] at ga gb
  simp only [tyC] at gc
  simp +decide only [execA,opsA,wantedA,evalAll,evalA,oneA,st_mov,st_box,st_load,st_bin,st_fieldAddr,st_pick,st_len,ld_ptr,H.cellsAt,H.newB,partA,tk_s,tk_0,tk_c,cl_agg,binAV,eqAV,St.put,Tr.get_put,if_true,if_false,cond_true,cond_false,Nat.zero_add,up_succ,nbeq,decide_true,Bool.not_true,eqK,kindNo,leaveA,resultA,resultsA,Option.map_some,beq_self_eq_true,ga,gb,gc,len_slV,ha,hb,e,hfu]
  generalize hit : iterA (execA X (callN X n) c13_l2) 100000 _ = o
  have hq : QG T a b o := by
    rw [← hit]
    refine less_l2 hfu hl ha hb hgl hls (by decide) ⟨?_,?_,?_,?_,?_,?_,?_⟩
    all_goals simp +decide only [Tr.get_put,ga,gb,if_true,if_false]
  obtain ⟨fr,t,nx2,⟨rfl,h6⟩ | ⟨r,rfl,h5,h6⟩⟩ := hq
  · simp +decide only [Tr.get_put,if_true,cond_true,decide_true,ret_iff,dfrsA,lessF,h6]
  · simp +decide only [ret_iff,dfrsA,lessF,h6,h5]
end
end Go.Abs.Sym
end
