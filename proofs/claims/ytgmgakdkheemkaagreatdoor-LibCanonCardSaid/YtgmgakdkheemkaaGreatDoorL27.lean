/- A part of the proof that LibSwaps answers true at every input: AbsKin, AbsKon, AbsKoc. -/
import Derived.Test.YtgmgakdkheemkaaGreatDoorL26
import Derived.Test.YtgmgakdkheemkaaGreatDoorL20
import Derived.Test.YtgmgakdkheemkaaGreatDoorL17
section
namespace Go.Abs.Sym
open Go.Abs.T
def padF (c : Nat × Nat × Nat) (k j : Nat) : AV :=
  match j with
  | 0 => .int .i64 (shK c.2.1)
  | 1 => slV edC ⟨1,shE (pX k) (pY c.1) c.2.1⟩
  | 2 => .int .i64 (shR c.2.1)
  | 3 => .int .i64 (pX k)
  | 4 => .int .i64 (pY c.1)
  | _ => .int .i64 (.ofNat (2 * c.2.2))
def tokV (cs : List (Nat × Nat × Nat)) (σ : Nat → List Nat) (i : Nat) : AV :=
  bif Nat.beq i topI then .sym topI else bif Nat.blt i 100 then .str (σ i) else
  match cs[(i - 100) / 10]? with
  | some c => padF c ((i - 100) / 10) ((i - 100) % 10)
  | none => .nils
theorem frz_padF (c : Nat × Nat × Nat) (k j : Nat) : frz (padF c k j) = true := by
  unfold padF
  split
  case h_2 => exact frz_slV frz_ed _
  all_goals rfl
theorem one_padF (c : Nat × Nat × Nat) (k j : Nat) : (padF c k j).one = true := by
  unfold padF
  split
  case h_2 => exact on_slV _ _
  all_goals rfl
def kinT (cs : List (Nat × Nat × Nat)) (σ : Nat → List Nat) : Toks where
  val := tokV cs σ
  frz := fun i => by
    unfold tokV
    cases Nat.beq i topI with
    | true => rfl
    | false =>
    simp only [cond_false]
    cases Nat.blt i 100 with
    | true => rfl
    | false =>
      simp only [cond_false]
      split
      · exact frz_padF _ _ _
      · rfl
  one := fun i => by
    unfold tokV
    cases Nat.beq i topI with
    | true => rfl
    | false =>
    simp only [cond_false]
    cases Nat.blt i 100 with
    | true => rfl
    | false =>
      simp only [cond_false]
      split
      · exact one_padF _ _ _
      · rfl
  top := rfl
def padTokC (k : Nat) : List AV := [.str (nmOf k),.sym (100 + 10 * k),.sym (100 + 10 * k + 1),.sym (100 + 10 * k + 2),.sym (100 + 10 * k + 3),.sym (100 + 10 * k + 4),.sym (100 + 10 * k + 5)]
def padTok (k : Nat) : AV := .agg (padTokC k)
def padToks : Nat → Nat → List AV
  | _,0 => []
  | k,m + 1 => padTokC k ++ padToks (k + 1) m
def tyTok (m : Nat) (gs : List GateD) : AV := .agg [.str [112,97,114,116],.rslc m (padToks 0 m),slV gateC ⟨0,gs⟩]
def netTok (l : List Nat) : AV := .rslc l.length (l.map .sym)
theorem tok_at {cs : List (Nat × Nat × Nat)} {σ : Nat → List Nat} {k : Nat} {c : Nat × Nat × Nat} (h : cs[k]? = some c) {j : Nat} (hj : j < 9) : tokV cs σ (100 + 10 * k + j) = padF c k j := by
  have h0 : Nat.beq (100 + 10 * k + j) topI = false := by
    cases hb : Nat.beq (100 + 10 * k + j) topI with
    | false => rfl
    | true =>
      have := Nat.eq_of_beq_eq_true hb
      have e : topI = 999999999 := rfl
      rw [e] at this
      omega
  have h1 : Nat.blt (100 + 10 * k + j) 100 = false := by
    cases hb : Nat.blt (100 + 10 * k + j) 100 with
    | false => rfl
    | true =>
      have := Nat.le_of_ble_eq_true hb
      omega
  have h2 : (100 + 10 * k + j - 100) / 10 = k := by omega
  have h3 : (100 + 10 * k + j - 100) % 10 = j := by omega
  simp only [tokV,h0,h1,cond_false,h2,h3,h]
theorem padTok_subst {cs : List (Nat × Nat × Nat)} {σ : Nat → List Nat} {k : Nat} {c : Nat × Nat × Nat} (h : cs[k]? = some c) : substs (kinT cs σ) (padTokC k) = padC (padOf k c.1 c.2.1 c.2.2) := by
  have h0 := tok_at (σ := σ) h (j := 0) (by decide)
  have h1 := tok_at (σ := σ) h (j := 1) (by decide)
  have h2 := tok_at (σ := σ) h (j := 2) (by decide)
  have h3 := tok_at (σ := σ) h (j := 3) (by decide)
  have h4 := tok_at (σ := σ) h (j := 4) (by decide)
  have h5 := tok_at (σ := σ) h (j := 5) (by decide)
  rw [Nat.add_zero] at h0
  simp only [padTokC,substs,AV.subst,kinT,h0,h1,h2,h3,h4,h5]
  rfl
theorem substs_append (t : Toks) : ∀ (a b : List AV),substs t (a ++ b) = substs t a ++ substs t b
  | [],b => rfl
  | v :: a,b => by simp only [List.cons_append,substs,substs_append t a b]
theorem padToks_subst {σ : Nat → List Nat} {all : List (Nat × Nat × Nat)} : ∀ (cs : List (Nat × Nat × Nat)) (k : Nat),(∀ i c,cs[i]? = some c → all[k + i]? = some c) → substs (kinT all σ) (padToks k cs.length) = (padsOf k cs).flatMap padC
  | [],_,_ => rfl
  | c :: cs,k,h => by
    have ih := padToks_subst (σ := σ) (all := all) cs (k + 1) (fun i c' e => by
      have := h (i + 1) c' e
      rwa [show k + 1 + i = k + (i + 1) by omega])
    have h1 := h 0 c rfl
    rw [Nat.add_zero] at h1
    simp only [List.length_cons,padToks,substs_append,ih,padTok_subst (σ := σ) h1,padsOf,List.flatMap_cons]
mutual
def noTok : AV → Bool
  | .sym _ => false
  | .rptr cs => noToks cs
  | .rslc _ cs => noToks cs
  | .fn _ a b => noToks a && noToks b
  | .iface _ v => noTok v
  | .agg cs => noToks cs
  | .tup cs => noToks cs
  | _ => true
def noToks : List AV → Bool
  | [] => true
  | v :: vs => noTok v && noToks vs
end
mutual
theorem subst_no (t : Toks) : ∀ a : AV,noTok a = true → a.subst t = a
  | .sym i,h => by simp only [noTok,Bool.false_eq_true] at h
  | .rptr cs,h => by simp only [noTok] at h; simp only [AV.subst,substs_no t cs h]
  | .rslc n cs,h => by simp only [noTok] at h; simp only [AV.subst,substs_no t cs h]
  | .fn f a b,h => by simp only [noTok,Bool.and_eq_true] at h; simp only [AV.subst,substs_no t a h.1,substs_no t b h.2]
  | .iface ty x,h => by simp only [noTok] at h; simp only [AV.subst,subst_no t x h]
  | .agg cs,h => by simp only [noTok] at h; simp only [AV.subst,substs_no t cs h]
  | .tup cs,h => by simp only [noTok] at h; simp only [AV.subst,substs_no t cs h]
  | .bool b,h => rfl
  | .int k n,h => rfl
  | .str s,h => rfl
  | .nilp,h => rfl
  | .ptr id off,h => rfl
  | .nils,h => rfl
  | .slc id off len sz cap,h => rfl
  | .eslc,h => rfl
  | .nilm,h => rfl
  | .mapv id,h => rfl
  | .nilf,h => rfl
  | .yield id,h => rfl
  | .nili,h => rfl
theorem substs_no (t : Toks) : ∀ vs : List AV,noToks vs = true → substs t vs = vs
  | [],_ => rfl
  | a :: vs,h => by
    simp only [noToks,Bool.and_eq_true] at h
    simp only [substs,subst_no t a h.1,substs_no t vs h.2]
end
theorem noToks_app : ∀ (a b : List AV),noToks (a ++ b) = (noToks a && noToks b)
  | [],b => by simp only [List.nil_append,noToks,Bool.true_and]
  | v :: a,b => by simp only [List.cons_append,noToks,noToks_app a b,Bool.and_assoc]
theorem noToks_flat {α : Type} {f : α → List AV} (hf : ∀ a,noToks (f a) = true) : ∀ l : List α,noToks (l.flatMap f) = true
  | [] => rfl
  | a :: l => by rw [List.flatMap_cons,noToks_app,hf,noToks_flat hf l]; rfl
theorem no_slV {α : Type} {f : α → List AV} (hf : ∀ a,noToks (f a) = true) (s : Sl α) : noTok (slV f s) = true := by
  unfold slV
  cases s.l with
  | nil => dsimp only; split <;> rfl
  | cons a l => simp only [noTok,noToks_app,hf,noToks_flat hf,Bool.and_self]
theorem no_gate (g : GateD) : noToks (gateC g) = true := by
  simp only [gateC,noToks,noTok,no_slV (f := lgC) (fun _ => rfl),Bool.and_self]
theorem tyTok_subst {σ : Nat → List Nat} {cs : List (Nat × Nat × Nat)} (_h0 : cs ≠ []) (gs : List GateD) : (tyTok cs.length gs).subst (kinT cs σ) = .agg (tyC (tyOf [112,97,114,116] cs gs)) := by
  have h1 := padToks_subst (σ := σ) (all := cs) cs 0 (fun i c e => by rwa [Nat.zero_add])
  have h2 : slV padC ⟨1,padsOf 0 cs⟩ = .rslc cs.length ((padsOf 0 cs).flatMap padC) := by rw [slV_rslc,len_padsOf]
  simp only [tyTok,AV.subst,substs,h1,subst_no (kinT cs σ) _ (no_slV no_gate ⟨0,gs⟩),tyC,tyOf,h2]
theorem tok_str {cs : List (Nat × Nat × Nat)} {σ : Nat → List Nat} {i : Nat} (h : i < 100) : (kinT cs σ).val i = .str (σ i) := by
  have h1 : Nat.blt i 100 = true := Nat.ble_eq_true_of_le h
  have h0 : Nat.beq i topI = false := by
    cases hb : Nat.beq i topI with
    | false => rfl
    | true =>
      have := Nat.eq_of_beq_eq_true hb
      have e : topI = 999999999 := rfl
      rw [e] at this
      omega
  simp only [kinT,tokV,h0,h1,cond_true,cond_false]
theorem netTok_subst {cs : List (Nat × Nat × Nat)} {σ : Nat → List Nat} {l : List Nat} (h : ∀ i ∈ l,i < 100) : (netTok l).subst (kinT cs σ) = strsV (l.map σ) := by
  simp only [netTok,AV.subst,substs_sym (kinT cs σ) (σ := σ) l (fun i hi => tok_str (h i hi)),strsV,List.length_map]
theorem frz_padToks : ∀ (m k : Nat),frzs (padToks k m) = true
  | 0,_ => rfl
  | m + 1,k => by
    simp only [padToks,padTokC,List.cons_append,List.nil_append,frzs,frz,frz_padToks m (k + 1),Bool.and_self]
theorem frz_tyTok (m : Nat) (gs : List GateD) : frz (tyTok m gs) = true := by
  simp only [tyTok,frz,frzs,frz_padToks,frz_slV frz_gate,Bool.and_self]
theorem frz_netTok (l : List Nat) : frz (netTok l) = true := by
  simp only [netTok,frz]
  induction l with
  | nil => rfl
  | cons a l ih => simp only [List.map_cons,frzs,frz,ih,Bool.and_self]
end Go.Abs.Sym
end
section
namespace Go.Abs.Sym
open Go.Abs.T
def gsOf : Nat → List GateD
  | 0 => [] | 1 => gs1 0 | 2 => gs1 1 | 3 => gs2 0 | 4 => gs2 1
  | 5 => gs3 0 0 | 6 => gs3 0 1 | 7 => gs3 0 2 | 8 => gs3 1 0 | 9 => gs3 1 1 | _ => gs3 1 2
def gtOf : Nat → List (Nat × List (Nat × Nat))
  | 0 => [] | 1 => [(0,[(0,1),(1,0)])] | 2 => [(0,[(0,1),(1,1)])]
  | 3 => [(1,[(0,0),(1,0)]),(1,[(2,0),(3,0)])] | 4 => [(1,[(0,1),(1,1)]),(1,[(2,1),(3,1)])]
  | 5 => [(1,[(0,0),(1,0)]),(1,[(2,0),(3,0)]),(0,[(5,0),(4,0)])] | 6 => [(1,[(0,0),(1,0)]),(1,[(2,0),(3,0)]),(1,[(5,0),(4,0)])] | 7 => [(1,[(0,0),(1,0)]),(1,[(2,0),(3,0)]),(2,[(5,0),(4,0)])]
  | 8 => [(1,[(0,1),(1,1)]),(1,[(2,1),(3,1)]),(0,[(5,1),(4,1)])] | 9 => [(1,[(0,1),(1,1)]),(1,[(2,1),(3,1)]),(1,[(5,1),(4,1)])] | _ => [(1,[(0,1),(1,1)]),(1,[(2,1),(3,1)]),(2,[(5,1),(4,1)])]
def vars : List (Nat × Nat) := [(2,0),(2,1),(2,2),(3,0),(3,1),(3,2),(4,0),(4,3),(4,4),(5,0),(5,3),(5,4),(6,0),(6,3),(6,4),(6,5),(6,6),(6,7),(6,8),(6,9),(6,10)]
theorem vars_of {m : Nat} {gs : List GateD} (h2 : 2 ≤ m) (h6 : m ≤ 6) (h : GOK m gs) : ∃ g,(m,g) ∈ vars ∧ gs = gsOf g := by
  have hm : m = 2 ∨ m = 3 ∨ m = 4 ∨ m = 5 ∨ m = 6 := by omega
  rcases h with rfl | ⟨h4,x,hx,rfl⟩ | ⟨h4,x,hx,rfl⟩ | ⟨rfl,x,k,hx,hk,rfl⟩
  · refine ⟨0,?_,rfl⟩
    rcases hm with rfl | rfl | rfl | rfl | rfl <;> decide
  · have hx : x = 0 ∨ x = 1 := by omega
    rcases hx with rfl | rfl
    · refine ⟨1,?_,rfl⟩
      rcases hm with rfl | rfl | rfl | rfl | rfl <;> first | decide | omega
    · refine ⟨2,?_,rfl⟩
      rcases hm with rfl | rfl | rfl | rfl | rfl <;> first | decide | omega
  · have hx : x = 0 ∨ x = 1 := by omega
    rcases hx with rfl | rfl
    · refine ⟨3,?_,rfl⟩
      rcases hm with rfl | rfl | rfl | rfl | rfl <;> first | decide | omega
    · refine ⟨4,?_,rfl⟩
      rcases hm with rfl | rfl | rfl | rfl | rfl <;> first | decide | omega
  · have hx : x = 0 ∨ x = 1 := by omega
    have hk : k = 0 ∨ k = 1 ∨ k = 2 := by omega
    rcases hx with rfl | rfl <;> rcases hk with rfl | rfl | rfl
    · exact ⟨5,by decide,rfl⟩
    · exact ⟨6,by decide,rfl⟩
    · exact ⟨7,by decide,rfl⟩
    · exact ⟨8,by decide,rfl⟩
    · exact ⟨9,by decide,rfl⟩
    · exact ⟨10,by decide,rfl⟩
def rngL : Nat → List Nat
  | 0 => [] | 1 => [0] | 2 => [0,1] | 3 => [0,1,2] | 4 => [0,1,2,3] | 5 => [0,1,2,3,4] | _ => [0,1,2,3,4,5]
def nthN : List Nat → Nat → Nat
  | [],_ => 0
  | a :: _,0 => a
  | _ :: l,n + 1 => nthN l n
def setN : List Nat → Nat → Nat → List Nat
  | [],_,_ => []
  | _ :: l,0,x => x :: l
  | a :: l,n + 1,x => a :: setN l n x
def takeL (r ps : List Nat) : List Nat := ps.map (nthN r)
def putL : List Nat → List Nat → List Nat → List Nat
  | r,p :: ps,x :: xs => putL (setN r p x) ps xs
  | r,_,_ => r
def putLs : List Nat → List (List Nat) → List (List Nat) → List Nat
  | r,p :: ps,x :: xs => putLs (putL r p x) ps xs
  | r,_,_ => r
def insDT (x : List Nat) : List (List Nat) → List (List Nat) → (List (List Nat) → DT) → DT
  | [],after,k => k (x :: after)
  | y :: ys,after,k => .node x y (insDT x ys (y :: after) k) (k (ys.reverse ++ y :: x :: after)) (k (ys.reverse ++ y :: x :: after))
def sortDT : List (List Nat) → List (List Nat) → (List (List Nat) → DT) → DT
  | [],done,k => k done
  | x :: xs,done,k => insDT x done.reverse [] (fun d => sortDT xs d k)
def sortedDT (ps : List (List Nat)) (r : List Nat) (k : List Nat → DT) : DT := sortDT (ps.map (takeL r)) [] (fun d => k (putLs r ps d))
def legsDT : List (Nat × List (Nat × Nat)) → List Nat → (List Nat → DT) → DT
  | [],r,k => k r
  | g :: gs,r,k => sortedDT ((g.2.filter (fun l => Nat.beq l.2 1)).map (fun l => [l.1])) r (fun r => legsDT gs r k)
def kindDT (n : Nat) (gs : List (Nat × List (Nat × Nat))) (r : List Nat) (k : List Nat → DT) : DT :=
  sortedDT ((gs.filter (fun g => Nat.beq g.1 n)).map (fun g => g.2.map (·.1))) r k
def legsT (m g : Nat) : DT := legsDT (gtOf g) (rngL m) .leaf
def kindT (g : Nat) (r : List Nat) : DT := kindDT 1 (gtOf g) r (fun r => kindDT 2 (gtOf g) r .leaf)
def leavesDT : Known → DT → List (Known × List Nat)
  | k,.leaf r => [(k,r)]
  | k,.node a b l e g => leavesDT ((a,b,-1) :: k) l ++ (leavesDT ((a,b,0) :: k) e ++ leavesDT ((a,b,1) :: k) g)
theorem leaves_path {σ : Nat → List Nat} : ∀ (d : DT) (k : Known),Known.ok σ k → ∃ k',Known.ok σ k' ∧ (k',d.eval σ) ∈ leavesDT k d
  | .leaf r,k,hk => ⟨k,hk,List.mem_cons_self⟩
  | .node a b l e g,k,hk => by
    have go : ∀ c,cmpL (a.map σ) (b.map σ) = c → Known.ok σ ((a,b,c) :: k) := fun c hc x hx => by
      rcases List.mem_cons.1 hx with rfl | hx
      · exact hc
      · exact hk x hx
    simp only [DT.eval,leavesDT,List.mem_append]
    rcases cmpL_cases (a.map σ) (b.map σ) with hc | hc | hc
    · rw [if_pos hc]
      obtain ⟨k',h1,h2⟩ := leaves_path l _ (go _ hc)
      exact ⟨k',h1,.inl h2⟩
    · rw [if_neg (by omega),if_pos hc]
      obtain ⟨k',h1,h2⟩ := leaves_path e _ (go _ hc)
      exact ⟨k',h1,.inr (.inl h2)⟩
    · rw [if_neg (by omega),if_neg (by omega)]
      obtain ⟨k',h1,h2⟩ := leaves_path g _ (go _ hc)
      exact ⟨k',h1,.inr (.inr h2)⟩
def swapR (m g i j : Nat) (gate : Bool) : Option (List Nat) :=
  let gs := gtOf g
  let r := rngL m
  bif gate then
    match gs.findIdx? (fun x => Nat.blt 0 x.1 && (match x.2 with | l :: _ => Nat.beq l.1 i | [] => false)),gs.findIdx? (fun x => Nat.blt 0 x.1 && (match x.2 with | l :: _ => Nat.beq l.1 j | [] => false)) with
    | some a,some b => match gs[a]?,gs[b]? with
      | some x,some y => bif Nat.beq a b || !Nat.beq x.1 y.1 then none else some (putLs r [x.2.map (·.1),y.2.map (·.1)] [takeL r (y.2.map (·.1)),takeL r (x.2.map (·.1))])
      | _,_ => none
    | _,_ => none
  else
    bif !Nat.beq i j && gs.any (fun x => x.2.any (fun l => Nat.beq l.1 i && Nat.beq l.2 1) && x.2.any (fun l => Nat.beq l.1 j && Nat.beq l.2 1)) then some (setN (setN r i j) j i) else none
end Go.Abs.Sym
end
section
namespace Go.Abs.T
open Go.Abs.Sym
open AV
def padS : Nat → (Pth → List AV → H → Option AV) → Pth → List AV → H → Option AV
  | 0,more => more
  | m + 1,more => oneSums f_padErr (padTok m) i0 (padS m more)
def tabN : List (Pth × List AV × AV) := [(f_right,[str [112,97,114,116]],bool true),
  (f_expand,[str [80,49]],tup [rslc 1 [str [80,49]],bool true]),(f_expand,[str [80,50]],tup [rslc 1 [str [80,50]],bool true]),(f_expand,[str [80,51]],tup [rslc 1 [str [80,51]],bool true]),
  (f_expand,[str [80,52]],tup [rslc 1 [str [80,52]],bool true]),(f_expand,[str [80,53]],tup [rslc 1 [str [80,53]],bool true]),(f_expand,[str [80,54]],tup [rslc 1 [str [80,54]],bool true])]
def XC (m : Nat) : Ctx := { X0 with sums := padS m (tabSums tabN (fun _ _ _ => none)) }
def XK (m g : Nat) (k : Known) : Ctx := { X0 with sums := cmpSums f_cmp k (oneSums f_check (tyTok m (gsOf g)) i0 (fun _ _ _ => none)) }
noncomputable def chkB (m g : Nat) : Bool := F.callC (XC m) 100 (.fn f_check [] []) [tyTok m (gsOf g)] h0 (isV i0)
def canR (r : List Nat) : AV := tup [netTok r,bool true]
noncomputable def canP (m g : Nat) (k : Known) (r : List Nat) : Bool := F.callC (XK m g k) 100 (.fn f_canon [] []) [tyTok m (gsOf g),netTok (rngL m)] h0 (isD (canR r)) &&
  (r.all (fun i => Nat.blt i 100) && k.all (fun e => e.1.all (fun i => Nat.blt i 100) && e.2.1.all (fun i => Nat.blt i 100) && (Nat.blt e.1.length 90000 && Nat.blt e.2.1.length 90000)))
noncomputable def canI (m g i : Nat) : Bool := match (leavesDT [] (legsT m g))[i]? with
  | some x => (kindT g x.2).all (canP m g) x.1
  | none => true
def swpR : Option (List Nat) → AV
  | some r => tup [netTok r,i0]
  | none => tup [nils,int .i64 (.ofNat 27)]
noncomputable def swpB (m g i j : Nat) (b : Bool) : Bool := F.callC (XK m g []) 100 (.fn f_swap [] []) [tyTok m (gsOf g),netTok (rngL m),agg [str [],str (nmOf i),str (nmOf j),bool b]] h0 (isD (swpR (swapR m g i j b)))
noncomputable def swpA (m g : Nat) : Bool := (rngL m).all fun i => (rngL m).all fun j => swpB m g i j false && swpB m g i j true
def swpC (m g : Nat) : Bool := (rngL m).all fun i => (rngL m).all fun j => (match swapR m g i j false with | some r => r.all (fun i => Nat.blt i 100) | none => true) && (match swapR m g i j true with | some r => r.all (fun i => Nat.blt i 100) | none => true)
end Go.Abs.T
end
