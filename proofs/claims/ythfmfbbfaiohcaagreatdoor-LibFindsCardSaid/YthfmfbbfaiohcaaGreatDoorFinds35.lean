/- A part of the proof that LibFinds answers true at every input: AbsIn, AbsBr, AbsBr2. -/
import Derived.OpenShut
import Derived.Test.YthfmfbbfaiohcaaGreatDoorFinds15
import Derived.Test.YthfmfbbfaiohcaaGreatDoorRows
import Derived.ProofKit
import Derived.LaidMore
import Derived.Stop.Joined
import Derived.ReadAgain
import Derived.Test.YthfmfbbfaiohcaaGreatDoorFinds34
import Derived.Test.YthfmfbbfaiohcaaGreatDoorTie
import Derived.Test.YthfmfbbfaiohcaaGreatDoorCards
section
namespace Go.Abs
inductive Ty where
  | bool
  | int (k : IntKind)
  | str
  | slc (e : Ty)
  | agg (fs : List Ty)
  deriving Inhabited
mutual
def Ty.size : Ty → Nat
  | .agg fs => Ty.sizes fs
  | _ => 1
def Ty.sizes : List Ty → Nat
  | [] => 0
  | f :: fs => f.size + Ty.sizes fs
end
mutual
def HasTy : Ty → List AV → Prop
  | .bool,al => ∃ b,al = [.bool b]
  | .int k,al => ∃ n,(Lit.int k n).wf = true ∧ al = [.int k n]
  | .str,al => ∃ s : List Nat,s.length ≤ maxLen ∧ (∀ b ∈ s,b < 256) ∧ al = [.str s]
  | .slc e,al => al = [.nils] ∨ ∃ ess : List (List AV),ess.length ≤ maxLen ∧ (∀ es ∈ ess,HasTy e es) ∧ al = [.rslc ess.length ess.flatten]
  | .agg fs,al => HasTys fs al
def HasTys : List Ty → List AV → Prop
  | [],al => al = []
  | f :: fs,al => ∃ a b,HasTy f a ∧ HasTys fs b ∧ al = a ++ b
end
mutual
def tyOK (P : Program) : Ty → TypeId → Bool
  | .bool,t => match P.underlying t with | some .bool => true | _ => false
  | .int k,t => match P.underlying t with | some (.int k') => eqK k' k | _ => false
  | .str,t => match P.underlying t with | some .string => true | _ => false
  | .slc e,t => match P.underlying t with | some (.slice e') => Nat.beq (P.cellsOf e') e.size && tyOK P e e' | _ => false
  | .agg fs,t => Nat.beq (P.cellsOf t) (Ty.sizes fs) && (match P.underlying t with
    | some (.struct fs') => tysOK P fs 0 (fs'.toList.map fun f => (f.type,f.offset))
    | some (.array n e) => tysOK P fs 0 ((List.range n).map fun i => (e,i * P.cellsOf e))
    | _ => false)
def tysOK (P : Program) : List Ty → Nat → List (TypeId × Nat) → Bool
  | [],_,[] => true
  | f :: fs,off,(t,o) :: l => Nat.beq o off && Nat.beq (P.cellsOf t) f.size && tyOK P f t && tysOK P fs (off + f.size) l
  | _,_,_ => false
end
mutual
theorem HasTy.frz : ∀ {ty : Ty} {al : List AV},HasTy ty al → frzs al = true
  | .bool,al,h => by
    simp only [HasTy] at h
    obtain ⟨b,rfl⟩ := h
    rfl
  | .int k,al,h => by
    simp only [HasTy] at h
    obtain ⟨n,_,rfl⟩ := h
    rfl
  | .str,al,h => by
    simp only [HasTy] at h
    obtain ⟨s,_,_,rfl⟩ := h
    rfl
  | .slc e, al,h => by
    simp only [HasTy] at h
    rcases h with rfl | ⟨ess,_,h,rfl⟩
    · rfl
    · have : ∀ l : List (List AV),(∀ es ∈ l,HasTy e es) → frzs l.flatten = true := by
        intro l
        induction l with
        | nil => intro _; rfl
        | cons es l ih =>
          intro h
          have happ : ∀ a b : List AV,frzs (a ++ b) = (frzs a && frzs b) := by
            intro a b
            induction a with
            | nil => simp only [List.nil_append,frzs,Bool.true_and]
            | cons v a ih => simp only [List.cons_append,frzs,ih,Bool.and_assoc]
          rw [List.flatten_cons,happ,HasTy.frz (h es (List.mem_cons_self ..)),ih (fun x hx => h x (List.mem_cons_of_mem _ hx))]
          rfl
      simp only [frzs,Abs.frz,this ess h,Bool.and_true]
  | .agg fs,al,h => by
    simp only [HasTy] at h
    exact HasTys.frz h
theorem HasTys.frz : ∀ {fs : List Ty} {al : List AV},HasTys fs al → frzs al = true
  | [],al,h => by
    simp only [HasTys] at h
    subst h
    rfl
  | f :: fs,al,h => by
    simp only [HasTys] at h
    obtain ⟨a,b,h1,h2,rfl⟩ := h
    have happ : ∀ a b : List AV,frzs (a ++ b) = (frzs a && frzs b) := by
      intro a b
      induction a with
      | nil => simp only [List.nil_append,frzs,Bool.true_and]
      | cons v a ih => simp only [List.cons_append,frzs,ih,Bool.and_assoc]
    rw [happ,HasTy.frz h1,HasTys.frz h2]
    rfl
end
mutual
theorem HasTy.size : ∀ {ty : Ty} {al : List AV},HasTy ty al → al.length = ty.size
  | .bool,al,h => by simp only [HasTy] at h; obtain ⟨b,rfl⟩ := h; rfl
  | .int k,al,h => by simp only [HasTy] at h; obtain ⟨n,_,rfl⟩ := h; rfl
  | .str,al,h => by simp only [HasTy] at h; obtain ⟨s,_,_,rfl⟩ := h; rfl
  | .slc e,al,h => by
    simp only [HasTy] at h
    rcases h with rfl | ⟨ess,_,h,rfl⟩ <;> rfl
  | .agg fs,al,h => by
    simp only [HasTy] at h
    exact HasTys.size h
theorem HasTys.size : ∀ {fs : List Ty} {al : List AV},HasTys fs al → al.length = Ty.sizes fs
  | [],al,h => by simp only [HasTys] at h; subst h; rfl
  | f :: fs,al,h => by
    simp only [HasTys] at h
    obtain ⟨a,b,h1,h2,rfl⟩ := h
    rw [List.length_append,HasTy.size h1,HasTys.size h2]
    rfl
end
section
variable {H : Type} {enc : TypeId × Value → H} {P : Program} {w : World} {spare : Nat → Bool} {held : Bool}
theorem VRs_append {w : World} {ρ : Nm} {L : Nat → Prop} : ∀ {a b : List AV} {x y : List Value},VRs w ρ L a x → VRs w ρ L b y → VRs w ρ L (a ++ b) (x ++ y)
  | [],b,x,y,h1,h2 => by
    simp only [VRs] at h1
    subst h1
    exact h2
  | v :: a,b,x,y,h1,h2 => by
    simp only [VRs] at h1
    obtain ⟨u,us,rfl,h3,h4⟩ := h1
    simp only [List.cons_append,VRs]
    exact ⟨u,us ++ y,rfl,h3,VRs_append h4 h2⟩
theorem VRp_of_VRs {w : World} {ρ : Nm} {L : Nat → Prop} : ∀ {a : List AV} {x z : List Value},VRs w ρ L a x → VRp w ρ L a (x ++ z)
  | [],x,z,h => by simp only [VRp]
  | v :: a,x,z,h => by
    simp only [VRs] at h
    obtain ⟨u,us,rfl,h3,h4⟩ := h
    simp only [List.cons_append,VRp]
    exact ⟨u,us ++ z,rfl,h3,VRp_of_VRs h4⟩
theorem nl0 {b : Nat} (h : b < w.heap.size) : NL (ρ0 w) (Lv (ρ0 w) h0) b := ⟨no_live b,h⟩
theorem mapM_cells {α : Type} {f : Nat → Option α} : ∀ {l : List Nat} {xs : List α},l.mapM f = some xs → xs.length = l.length ∧ ∀ i (h : i < l.length),f l[i] = xs[i]? := by
  intro l
  induction l with
  | nil => intro xs h; simp at h; subst h; exact ⟨rfl,fun i h => absurd h (Nat.not_lt_zero _)⟩
  | cons a l ih =>
    intro xs h
    simp only [List.mapM_cons,Option.bind_eq_bind,Option.bind_eq_some_iff,Option.pure_def,Option.some.injEq] at h
    obtain ⟨x,h1,xs',h2,rfl⟩ := h
    obtain ⟨h3,h4⟩ := ih h2
    refine ⟨by simp [h3],fun i hi => ?_⟩
    cases i with
    | zero => simp [h1]
    | succ i => simp at hi ⊢; exact h4 i hi
theorem cells_at {a : Addr} {n : Nat} {cs : List Value} (h : w.cells? 0 a n = some cs) (hn : 0 < n) : ∃ b off c el fz,a = ⟨b,off,none⟩ ∧ w.heap[b]? = some (.cells c el fz) ∧ cs.length = n ∧ cs = (c.toList.drop off).take n ∧ off + n ≤ c.size := by
  unfold World.cells? at h
  rw [if_pos (Nat.zero_le _)] at h
  obtain ⟨hl,hi⟩ := mapM_cells h
  rw [List.length_range] at hl
  have hget : ∀ i,i < n → w.cell? (a.add i) = cs[i]? := by
    intro i hin
    have := hi i (by rw [List.length_range]; exact hin)
    rwa [List.getElem_range] at this
  have h0' := hget 0 hn
  rw [List.getElem?_eq_getElem (by omega)] at h0'
  have hsp : a.spot = none := by
    have := World.cell?_spot h0'
    obtain ⟨b,off,spot⟩ := a
    simpa only [Addr.add,if_true,reduceIte] using this
  obtain ⟨b,off,spot⟩ := a
  simp only at hsp
  subst hsp
  rw [add_plain] at h0'
  unfold World.cell? at h0'
  simp only at h0'
  cases hb : w.heap[b]? with
  | none => rw [hb] at h0'; cases h0'
  | some o =>
    rw [hb] at h0'
    cases o with
    | cells c el fz =>
      have hall : ∀ i,i < n → c[off + i]? = cs[i]? := by
        intro i hin
        have := hget i hin
        rw [add_plain] at this
        unfold World.cell? at this
        simp only [hb] at this
        exact this
      have hsz : off + n ≤ c.size := by
        have := hall (n - 1) (by omega)
        rw [List.getElem?_eq_getElem (by omega)] at this
        obtain ⟨hlt,_⟩ := Array.getElem?_eq_some_iff.1 this
        omega
      refine ⟨b,off,c,el,fz,rfl,hb,hl,?_,hsz⟩
      apply List.ext_getElem?
      intro i
      rcases Nat.lt_or_ge i n with hin | hin
      · rw [← hall i hin,List.getElem?_take_of_lt hin,List.getElem?_drop,Array.getElem?_toList]
      · rw [List.getElem?_eq_none (by omega),List.getElem?_eq_none (by simp; omega)]
    | _ => cases h0'
theorem take_drop_split {α : Type} (l : List α) (a n m : Nat) : (l.drop a).take (n + m) = (l.drop a).take n ++ (l.drop (a + n)).take m := by
  rw [List.take_add,List.drop_drop]
theorem VRp_prefix {ρ : Nm} {L : Nat → Prop} {al : List AV} {l : List Value} {n : Nat} (h : VRs w ρ L al (l.take n)) : VRp w ρ L al l := by
  have := VRp_of_VRs (z := l.drop n) h
  rwa [List.take_append_drop] at this
theorem VRs_nil' {ρ : Nm} {L : Nat → Prop} : VRs w ρ L [] [] := by simp only [VRs]
theorem row_av {e : Ty} {e' : TypeId} {a : Addr} {len sz fuel : Nat} (_hsz : sz = e.size) (hpos : 0 < sz) (hlen : 0 < len)
    (ih : ∀ {cs : List Value} {x : DataW H × List MemPlace},DataW.trod enc P w 0 spare held fuel e' cs = some x → ∃ al,HasTy e al ∧ VRs w (ρ0 w) (Lv (ρ0 w) h0) al cs)
    (hel : ∀ i,i < len → ∃ x,(w.cells? 0 (a.add (i * sz)) sz).bind (DataW.trod enc P w 0 spare held fuel e') = some x) :
    ∃ b off c el fz,a = ⟨b,off,none⟩ ∧ w.heap[b]? = some (.cells c el fz) ∧ ∀ n,n ≤ len → ∃ ess : List (List AV),ess.length = n ∧ (∀ es ∈ ess,HasTy e es) ∧ VRs w (ρ0 w) (Lv (ρ0 w) h0) ess.flatten ((c.toList.drop off).take (n * sz)) := by
  obtain ⟨x0,hx0⟩ := hel 0 hlen
  obtain ⟨cs0,hc0,_⟩ := Option.bind_eq_some_iff.1 hx0
  obtain ⟨b,off,c,el,fz,ha,hb,_⟩ := cells_at hc0 hpos
  have ha' : a = ⟨b,off,none⟩ := by
    obtain ⟨b0,o0,s0⟩ := a
    simp only [Addr.add,Nat.zero_mul,Nat.add_zero] at ha
    exact ha
  refine ⟨b,off,c,el,fz,ha',hb,?_⟩
  intro n
  induction n with
  | zero => intro _; exact ⟨[],rfl,fun _ h => absurd h (List.not_mem_nil),by rw [Nat.zero_mul,List.take_zero]; exact VRs_nil'⟩
  | succ n ihn =>
    intro hn
    obtain ⟨ess,h1,h2,h3⟩ := ihn (by omega)
    obtain ⟨x,hx⟩ := hel n (by omega)
    obtain ⟨cs,hc,hx⟩ := Option.bind_eq_some_iff.1 hx
    obtain ⟨al,g1,g2⟩ := ih hx
    obtain ⟨b',off',c',el',fz',hadd,hb',_,hcs,hle⟩ := cells_at hc hpos
    rw [ha'] at hadd
    rw [add_plain] at hadd
    simp only [Addr.mk.injEq] at hadd
    obtain ⟨rfl,rfl,_⟩ := hadd
    rw [hb] at hb'
    cases hb'
    refine ⟨ess ++ [al],by rw [List.length_append,h1]; rfl,?_,?_⟩
    · intro es hes
      rcases List.mem_append.1 hes with h | h
      · exact h2 es h
      · rw [List.mem_singleton.1 h]; exact g1
    · rw [List.flatten_append,show (n + 1) * sz = n * sz + sz from Nat.succ_mul n sz,take_drop_split]
      refine VRs_append h3 ?_
      rw [← hcs]
      simpa using g2
mutual
theorem trod_av : ∀ (ty : Ty) {t : TypeId},tyOK P ty t = true → ∀ {fuel : Nat} {cs : List Value} {x : DataW H × List MemPlace},DataW.trod enc P w 0 spare held fuel t cs = some x →
    ∃ al,HasTy ty al ∧ VRs w (ρ0 w) (Lv (ρ0 w) h0) al cs
  | .bool,t,hty,fuel,cs,x,h => by
    simp only [tyOK] at hty
    split at hty
    · rename_i hu
      obtain ⟨b,rfl,_⟩ := DataW.trod_bool hu h
      exact ⟨[.bool b],by simp only [HasTy]; exact ⟨b,rfl⟩,by simp only [VRs,VR]; exact ⟨_,_,rfl,rfl,rfl⟩⟩
    · cases hty
  | .int k,t,hty,fuel,cs,x,h => by
    simp only [tyOK] at hty
    split at hty
    · rename_i k' hu
      obtain ⟨n,rfl,_,hw⟩ := DataW.trod_int hu h
      obtain rfl : k' = k := by cases k' <;> cases k <;> first | rfl | cases hty
      exact ⟨[.int k' n],by simp only [HasTy]; exact ⟨n,hw,rfl⟩,by simp only [VRs,VR]; exact ⟨_,_,rfl,rfl,rfl⟩⟩
    · cases hty
  | .str,t,hty,fuel,cs,x,h => by
    simp only [tyOK] at hty
    split at hty
    · rename_i hu
      obtain ⟨s,rfl,_,hs⟩ := DataW.trod_string hu h
      refine ⟨[.str (bytesL s)],?_,by simp only [VRs,VR]; exact ⟨_,_,rfl,⟨s,rfl,rfl⟩,rfl⟩⟩
      simp only [HasTy]
      refine ⟨_,?_,?_,rfl⟩
      · simp only [bytesL,List.length_map,Array.length_toList]
        exact hs
      · intro b hb
        simp only [bytesL,List.mem_map] at hb
        obtain ⟨u,_,rfl⟩ := hb
        exact u.toNat_lt
    · cases hty
  | .slc e, t, hty,fuel,cs,x,h => by
    simp only [tyOK] at hty
    split at hty
    · rename_i e' hu
      simp only [Bool.and_eq_true] at hty
      have hsz : P.cellsOf e' = e.size := Nat.eq_of_beq_eq_true hty.1
      rcases DataW.trod_slice hu h with ⟨rfl,_⟩ | ⟨a,len,cap,elems,rest,n,rfl,rfl,_,_,hlc,hcm,hel,hat,_⟩
      · exact ⟨[.nils],by simp only [HasTy]; exact .inl trivial,by simp only [VRs,VR]; exact ⟨_,_,rfl,rfl,rfl⟩⟩
      · have hat' : ∀ i,i < len → ∃ x,(w.cells? 0 (a.add (i * P.cellsOf e')) (P.cellsOf e')).bind (DataW.trod enc P w 0 spare held n e') = some x := by
          intro i hi
          exact ⟨elems[i]'(by omega),by rw [hat i hi,List.getElem?_eq_getElem]⟩
        rcases Nat.eq_zero_or_pos len with h0' | hpos
        · subst h0'
          refine ⟨[.rslc 0 []],?_,?_⟩
          · simp only [HasTy]
            exact .inr ⟨[],Nat.zero_le _,fun _ h => absurd h (List.not_mem_nil),rfl⟩
          · simp only [VRs,VR]
            exact ⟨_,_,rfl,⟨some a,cap,rfl,hlc,.inl ⟨trivial,rfl⟩⟩,rfl⟩
        · rcases Nat.eq_zero_or_pos (P.cellsOf e') with hz | hz
          · have hess : ∀ k,k ≤ len → ∃ ess : List (List AV),ess.length = k ∧ (∀ es ∈ ess,HasTy e es) := by
              intro k
              induction k with
              | zero => intro _; exact ⟨[],rfl,fun _ h => absurd h (List.not_mem_nil)⟩
              | succ k ih =>
                intro hk
                obtain ⟨ess,g1,g2⟩ := ih (by omega)
                obtain ⟨x,hx⟩ := hat' k (by omega)
                obtain ⟨cs,hc,hx⟩ := Option.bind_eq_some_iff.1 hx
                obtain ⟨al,k1,_⟩ := trod_av e hty.2 hx
                exact ⟨al :: ess,by rw [List.length_cons,g1],fun es hes => by
                  rcases List.mem_cons.1 hes with rfl | h
                  · exact k1
                  · exact g2 es h⟩
            obtain ⟨ess,g1,g2⟩ := hess len (Nat.le_refl _)
            have hfl : ess.flatten = [] := by
              rw [List.flatten_eq_nil_iff]
              intro es hes
              exact List.eq_nil_of_length_eq_zero (by rw [(g2 es hes).size,← hsz,hz])
            refine ⟨[.rslc len []],?_,?_⟩
            · simp only [HasTy]
              exact .inr ⟨ess,by omega,g2,by rw [hfl,g1]⟩
            · simp only [VRs,VR]
              exact ⟨_,_,rfl,⟨some a,cap,rfl,hlc,.inl ⟨trivial,rfl⟩⟩,rfl⟩
          · obtain ⟨b,off,c,el,fz,rfl,hb,hrow⟩ := row_av hsz hz hpos (fun hx => trod_av e hty.2 hx) hat'
            obtain ⟨ess,g1,g2,g3⟩ := hrow len (Nat.le_refl _)
            refine ⟨[.rslc len ess.flatten],?_,?_⟩
            · simp only [HasTy]
              exact .inr ⟨ess,by omega,g2,by rw [g1]⟩
            · simp only [VRs,VR]
              exact ⟨_,_,rfl,⟨_,cap,rfl,hlc,.inr ⟨b,off,c,el,fz,rfl,nl0 (lt_of_heap hb),hb,VRp_prefix g3⟩⟩,rfl⟩
    · cases hty
  | .agg fs,t,hty,fuel,cs,x,h => by
    simp only [tyOK,Bool.and_eq_true] at hty
    obtain ⟨hsz,hty⟩ := hty
    have hsz := Nat.eq_of_beq_eq_true hsz
    split at hty
    · rename_i fs' hu
      obtain ⟨xs,n,rfl,_,hl,hxs,hat⟩ := DataW.trod_struct hu h
      obtain ⟨al,g1,g2⟩ := trods_av fs hty (fuel := n) (cs := cs) (by
        intro t o hm
        obtain ⟨f,hf,he⟩ := List.mem_map.1 hm
        simp only [Prod.mk.injEq] at he
        obtain ⟨rfl,rfl⟩ := he
        obtain ⟨i,hi,rfl⟩ := List.getElem_of_mem hf
        rw [Array.length_toList] at hi
        exact ⟨xs[i]'(by omega),by rw [← List.getElem?_eq_getElem,← hat i _ (Array.getElem?_eq_getElem hi)]; rfl⟩) (by omega)
      refine ⟨al,by simp only [HasTy]; exact g1,?_⟩
      rwa [List.drop_zero,List.take_of_length_le (by omega)] at g2
    · rename_i m e hu
      obtain ⟨xs,n,rfl,_,hl,hxs,hat⟩ := DataW.trod_array hu h
      obtain ⟨al,g1,g2⟩ := trods_av fs hty (fuel := n) (cs := cs) (by
        intro t o hm
        obtain ⟨i,hi,he⟩ := List.mem_map.1 hm
        simp only [Prod.mk.injEq] at he
        obtain ⟨rfl,rfl⟩ := he
        rw [List.mem_range] at hi
        exact ⟨xs[i]'(by omega),by rw [← List.getElem?_eq_getElem,← hat i hi]⟩) (by omega)
      refine ⟨al,by simp only [HasTy]; exact g1,?_⟩
      rwa [List.drop_zero,List.take_of_length_le (by omega)] at g2
    · cases hty
theorem trods_av : ∀ (fs : List Ty) {off : Nat} {l : List (TypeId × Nat)},tysOK P fs off l = true → ∀ {fuel : Nat} {cs : List Value},
    (∀ t o,(t,o) ∈ l → ∃ x,DataW.trod enc P w 0 spare held fuel t ((cs.drop o).take (P.cellsOf t)) = some x) → off + Ty.sizes fs ≤ cs.length →
    ∃ al,HasTys fs al ∧ VRs w (ρ0 w) (Lv (ρ0 w) h0) al ((cs.drop off).take (Ty.sizes fs))
  | [],off,l,hl,fuel,cs,h,hle => ⟨[],by simp only [HasTys],by simp only [Ty.sizes,List.take_zero]; exact VRs_nil'⟩
  | f :: fs,off,[],hl,fuel,cs,h,hle => by simp [tysOK] at hl
  | f :: fs,off,(t,o) :: l,hl,fuel,cs,h,hle => by
    simp only [tysOK,Bool.and_eq_true] at hl
    obtain ⟨⟨⟨h1,h2⟩,h3⟩,h4⟩ := hl
    have h1 := Nat.eq_of_beq_eq_true h1
    have h2 := Nat.eq_of_beq_eq_true h2
    subst h1
    simp only [Ty.sizes] at hle
    obtain ⟨x,hx⟩ := h t o (List.mem_cons_self ..)
    obtain ⟨al,g1,g2⟩ := trod_av f h3 hx
    obtain ⟨bs,k1,k2⟩ := trods_av fs h4 (cs := cs) (fun t o hm => h t o (List.mem_cons_of_mem _ hm)) (by omega)
    refine ⟨al ++ bs,by simp only [HasTys]; exact ⟨al,bs,g1,k1,rfl⟩,?_⟩
    simp only [Ty.sizes]
    rw [take_drop_split]
    rw [h2] at g2
    exact VRs_append g2 k2
end
end
end Go.Abs
end
section
namespace Go.Abs.Sym
open Go.Abs.T
open Go.Proofs
def ptTy : Ty := .agg [.int .i64,.int .i64]
def edTy : Ty := .agg [.int .i64,ptTy,ptTy,ptTy]
def shTy : Ty := .agg [.int .i64,.slc edTy,.int .i64]
def padTy : Ty := .agg [.str,shTy,ptTy,.int .i64]
def lgTy : Ty := .agg [.str,.int .i64]
def gateTy : Ty := .agg [.int .i64,.slc lgTy]
def typTy : Ty := .agg [.str,.slc padTy,.slc gateTy]
def caseTy : Ty := .agg [.slc (.int .i64),.slc (.int .i64),.slc (.int .i64),.agg [.int .i64,.int .i64,.int .i64],.agg [.int .u8,.int .u8],.bool]
theorem ok26 : tyOK Tryz.prog caseTy 26 = true := by kernel_rfl
theorem ok30 : tyOK Tryz.prog typTy 30 = true := by kernel_rfl
theorem ok9 : tyOK Tryz.prog .str 9 = true := by kernel_rfl
theorem list_of {α : Type} {f : α → List AV} : ∀ {ess : List (List AV)},(∀ es ∈ ess,∃ a,es = f a) → ∃ l : List α,ess = l.map f
  | [],_ => ⟨[],rfl⟩
  | es :: ess,h => by
    obtain ⟨a,ha⟩ := h es List.mem_cons_self
    obtain ⟨l,hl⟩ := list_of (fun x hx => h x (List.mem_cons_of_mem _ hx))
    exact ⟨a :: l,by rw [ha,hl]; rfl⟩
theorem slc_of {α : Type} {f : α → List AV} {e : Ty} (he : ∀ es,HasTy e es → ∃ a,es = f a) {xs : List AV} (h : HasTy (.slc e) xs) : ∃ s : Sl α,s.l.length ≤ maxLen ∧ xs = [slV f s] := by
  simp only [HasTy] at h
  rcases h with rfl | ⟨ess,h1,h2,rfl⟩
  · exact ⟨⟨0,[]⟩,Nat.zero_le _,rfl⟩
  · obtain ⟨l,rfl⟩ := list_of (fun es hes => he es (h2 es hes))
    refine ⟨⟨1,l⟩,by rwa [len_map] at h1,?_⟩
    rw [slV_rslc,len_map]
    rfl
theorem int_of {es : List AV} (h : HasTy (.int .i64) es) : ∃ a,es = inC a := by
  simp only [HasTy] at h
  obtain ⟨n,_,rfl⟩ := h
  exact ⟨n,rfl⟩
theorem ed_of {es : List AV} (h : HasTy edTy es) : ∃ a,es = edC a := by
  simp only [edTy,ptTy,HasTy,HasTys] at h
  obtain ⟨a,b,⟨n1,_,rfl⟩,⟨c,d,⟨e,f,⟨n2,_,rfl⟩,⟨g,i,⟨n3,_,rfl⟩,rfl,rfl⟩,rfl⟩,⟨c2,d2,⟨e2,f2,⟨n4,_,rfl⟩,⟨g2,i2,⟨n5,_,rfl⟩,rfl,rfl⟩,rfl⟩,⟨c3,d3,⟨e3,f3,⟨n6,_,rfl⟩,⟨g3,i3,⟨n7,_,rfl⟩,rfl,rfl⟩,rfl⟩,rfl,rfl⟩,rfl⟩,rfl⟩,rfl⟩ := h
  exact ⟨⟨n1,n2,n3,n4,n5,n6,n7⟩,rfl⟩
theorem lg_of {es : List AV} (h : HasTy lgTy es) : ∃ a,es = lgC a := by
  simp only [lgTy,HasTy,HasTys] at h
  obtain ⟨a,b,⟨s,_,_,rfl⟩,⟨c,d,⟨n,_,rfl⟩,rfl,rfl⟩,rfl⟩ := h
  exact ⟨⟨s,n⟩,rfl⟩
theorem pad_of {es : List AV} (h : HasTy padTy es) : ∃ a,es = padC a := by
  simp only [padTy,shTy,ptTy] at h
  rw [HasTy] at h
  simp only [HasTys] at h
  obtain ⟨a,b,h1,⟨c,d,h2,⟨e,f,h3,⟨g,i,h4,rfl,rfl⟩,rfl⟩,rfl⟩,rfl⟩ := h
  simp only [HasTy] at h1 h4
  obtain ⟨s,_,_,rfl⟩ := h1
  obtain ⟨dr,_,rfl⟩ := h4
  rw [HasTy] at h2 h3
  simp only [HasTys] at h2 h3
  obtain ⟨a1,a2,k1,⟨a3,a4,k2,⟨a5,a6,k3,rfl,rfl⟩,rfl⟩,rfl⟩ := h2
  obtain ⟨b1,b2,k4,⟨b3,b4,k5,rfl,rfl⟩,rfl⟩ := h3
  obtain ⟨es,_,rfl⟩ := slc_of (fun _ h => ed_of h) k2
  simp only [HasTy] at k1 k3 k4 k5
  obtain ⟨kd,_,rfl⟩ := k1
  obtain ⟨r,_,rfl⟩ := k3
  obtain ⟨x,_,rfl⟩ := k4
  obtain ⟨y,_,rfl⟩ := k5
  exact ⟨⟨s,kd,es,r,x,y,dr⟩,rfl⟩
theorem gate_of {es : List AV} (h : HasTy gateTy es) : ∃ a,es = gateC a := by
  simp only [gateTy] at h
  rw [HasTy] at h
  simp only [HasTys] at h
  obtain ⟨a,b,h1,⟨c,d,h2,rfl,rfl⟩,rfl⟩ := h
  obtain ⟨ls,_,rfl⟩ := slc_of (fun _ h => lg_of h) h2
  simp only [HasTy] at h1
  obtain ⟨kd,_,rfl⟩ := h1
  exact ⟨⟨kd,ls⟩,rfl⟩
theorem typ_of {es : List AV} (h : HasTy typTy es) : ∃ a,es = tyC a := by
  simp only [typTy] at h
  rw [HasTy] at h
  simp only [HasTys] at h
  obtain ⟨a,b,h1,⟨c,d,h2,⟨e,f,h3,rfl,rfl⟩,rfl⟩,rfl⟩ := h
  obtain ⟨ps,_,rfl⟩ := slc_of (fun _ h => pad_of h) h2
  obtain ⟨gs,_,rfl⟩ := slc_of (fun _ h => gate_of h) h3
  simp only [HasTy] at h1
  obtain ⟨s,_,_,rfl⟩ := h1
  exact ⟨⟨s,ps,gs⟩,rfl⟩
theorem case_of {es : List AV} (h : HasTy caseTy es) : ∃ c,es = caseC c ∧ CaseOK c := by
  simp only [caseTy] at h
  rw [HasTy] at h
  simp only [HasTys] at h
  obtain ⟨a,b,h1,⟨a2,b2,h2,⟨a3,b3,h3,⟨a4,b4,h4,⟨a5,b5,h5,⟨a6,b6,h6,rfl,rfl⟩,rfl⟩,rfl⟩,rfl⟩,rfl⟩,rfl⟩ := h
  obtain ⟨l1,e1,rfl⟩ := slc_of (fun _ h => int_of h) h1
  obtain ⟨l2,e2,rfl⟩ := slc_of (fun _ h => int_of h) h2
  obtain ⟨l3,e3,rfl⟩ := slc_of (fun _ h => int_of h) h3
  simp only [HasTy,HasTys] at h4 h5 h6
  obtain ⟨_,_,⟨o0,_,rfl⟩,⟨_,_,⟨o1,_,rfl⟩,⟨_,_,⟨o2,_,rfl⟩,rfl,rfl⟩,rfl⟩,rfl⟩ := h4
  obtain ⟨_,_,⟨s0,_,rfl⟩,⟨_,_,⟨s1,_,rfl⟩,rfl,rfl⟩,rfl⟩ := h5
  obtain ⟨g,rfl⟩ := h6
  have hm : maxLen < 9223372036854775808 := by decide
  exact ⟨⟨l1,l2,l3,o0,o1,o2,s0,s1,g⟩,rfl,by show l1.l.length < _; omega,by show l2.l.length < _; omega,by show l3.l.length < _; omega⟩
end Go.Abs.Sym
end
section
namespace Go.Proofs.YthfmfbbfaiohcaaGreatDoor
open Go.ChangeShapes Go.WideShapes Go.ChangeAt Go.RowKit
open Go.Abs Go.Abs.Sym
theorem own : ownKnob Tryz.prog.godebug = none := by kernel_rfl
theorem kids : Kids Tryz.prog (· < Tryz.prog.types.size) := kids_rows (by kernel_rfl) (by kernel_rfl)
theorem full : ∀ t e,t < Tryz.prog.types.size → Tryz.prog.underlying t = some (.slice e) → 0 < Tryz.prog.cellsOf e := slices_full_of Tryz.prog (by kernel_rfl)
theorem params_lt : ∀ t ∈ Tryz.f3.params.toList,t < Tryz.prog.types.size := by
  rw [Tryz.params3]
  have h : ([26,30,9].all fun t => decide (t < Tryz.prog.types.size)) = true := by kernel_rfl
  intro t ht
  simpa using List.all_eq_true.1 h t ht
theorem run (W : World) (v0 v1 v2 : Value) (a b : List AV) (s : List Nat) (hv : VRs W (ρ0 W) (Lv (ρ0 W) Abs.h0) [.agg a,.agg b,.str s] [v0,v1,v2]) (ha : HasTy caseTy a) (hb : HasTy typTy b) :
    Calls Tryz.prog 3 #[v0,v1,v2] W (fun e w' => e = .returned (.bool true) ∧ (∀ b,b < W.heap.size → w'.heap[b]? = W.heap[b]?) ∧ W.heap.size ≤ w'.heap.size ∧ w'.os = W.os ∧ w'.output = W.output) := by
  obtain ⟨c,rfl,hc⟩ := case_of ha
  obtain ⟨R,rfl⟩ := typ_of hb
  obtain ⟨v,h1,hcall,rfl⟩ := law3 c hc R s
  have := calls_ok lev4.ok (n := 59) hcall rfl (HR.empty (P := Tryz.prog) (w := W) lev4.globs) (avs := #[v0,v1,v2]) hv ⟨_,rfl⟩
  refine this.mono fun e w' ⟨vv,he,hB⟩ => ?_
  have hk := hB.kept
  obtain ⟨ρ',_,_,hvv⟩ := hB
  simp only [VR] at hvv
  rw [he,hvv]
  exact ⟨rfl,hk.1,hk.2.1,hk.2.2.1,hk.2.2.2.1⟩
set_option maxRecDepth 10000 in
theorem agg_of {W : World} {base : Nat} {t : TypeId} {v : Value} {fs : Array Field} (hd : Tryz.prog.underlying t = some (.struct fs)) (h : Value.okWide Tryz.prog W .any base t v) : ∃ cs,v = .agg cs := by
  unfold Value.okWide at h
  rw [hd] at h
  obtain ⟨cs,h,_⟩ := h
  exact ⟨cs,h⟩
theorem sameAt_of {W W' : World} (hk : ∀ b,b < W.heap.size → W'.heap[b]? = W.heap[b]?) {p : MemPlace} (hp : p.block < W.heap.size) : W.sameAt W' p := by
  cases p with
  | cell b off =>
    show _ = _
    simp only [World.cell?]
    rw [hk b hp]
  | map b => exact hk b hp
theorem trodAll_carry {H : Type} {enc : TypeId × Value → H} {P : Program} {W W' : World} {base : Nat} {spare : Nat → Bool} {held : Bool} : ∀ {ts : List TypeId} {vs : List Value} {ds : List (DataW H)} {ps : List MemPlace},
    DataW.TrodAll enc P W base spare held ts vs ds ps → (∀ p ∈ ps,W.sameAt W' p) → DataW.TrodAll enc P W' base spare held ts vs ds ps
  | [],[],[],_,h,_ => h
  | _ :: _,_ :: _,_ :: _,_,⟨p,q,⟨n,h1⟩,h2,e⟩,hs => ⟨p,q,⟨n,DataW.trod_carry n _ _ _ h1 (fun x hx => hs x (by rw [e]; exact List.mem_append_left _ hx))⟩,trodAll_carry h2 (fun x hx => hs x (by rw [e]; exact List.mem_append_right _ hx)),e⟩
theorem door_met (os : Os) (args : Array Value) : laidMetH Tryz.prog Rows.libFindsRow.laid ((World.doorLaid Tryz.prog 400 os).forCall (fun _ _ => 0) ⟨#[],args,[]⟩).memory :=
  laidMetH_of_parts3 (fuel := 8) (laidMet_of_run' 8 (by kernel_rfl) (by kernel_rfl)) (by kernel_rfl) (by kernel_rfl)
set_option maxRecDepth 100000 in
theorem lifted (os : Os) (started : os.Started) (H : Type) (enc : TypeId × Value → H) :
    ReturnsInHanded {} Tryz.checked os 3 .any (fun w args => (Rows.libFindsSpec.pre enc Tryz.prog Tryz.f3 [] false w args ∧ laidMetH Tryz.prog Rows.libFindsRow.laid w) ∧ sizedMet enc Tryz.prog Tryz.f3 (OpenSpec.ofChange Rows.libFindsSpec) false w args)
      (Rows.libFindsSpec.post enc Tryz.prog Tryz.f3 false true false false) := by
  refine returnsInHanded_of_change_and (C := Tryz.checked) (X := fun w _ => laidMetH Tryz.prog Rows.libFindsRow.laid w) (fun _ _ _ hh h => h.of_heap hh) own started (by kernel_rfl) Tryz.func3
    (ChangeSpec.witness_shaped (enc := enc) (C := Tryz.checked) (os := os) (X := fun w _ => laidMetH Tryz.prog Rows.libFindsRow.laid w) false (World.doorLaid Tryz.prog 400 os)
      #[.agg #[.slice none 0 0,.slice none 0 0,.slice none 0 0,.int .i64 0,.int .i64 0,.int .i64 0,.int .u8 0,.int .u8 0,.bool false],.agg #[.string ⟨#[]⟩,.slice none 0 0,.slice none 0 0],.string ⟨#[]⟩] 8 rfl (World.shaped_of_RefB (by kernel_rfl) (by kernel_rfl)) (by kernel_rfl) (by kernel_rfl) (by kernel_rfl) (door_met os _)) ?_
  intro W base args ds gs before hval0 hW _ _ _ _
  have hval : ∀ (j : Nat) t v,Tryz.f3.params[j]? = some t → args[j]? = some v → Value.okWide Tryz.prog W .any base t v := hval0
  have hW' := hW
  obtain ⟨p,q,hA0,hV,rfl,hfz,hnd⟩ := hW
  have hA : DataW.TrodAll enc Tryz.prog W 0 (fun _ => true) true Tryz.f3.params.toList args.toList ds p := hA0
  have hAk := hA
  rw [Tryz.params3] at hA hval
  obtain ⟨v0,v1,v2,d0,d1,d2,p0,p1,p2,rfl,rfl,rfl,h0,h1,h2⟩ := trodAll_three hA
  obtain ⟨rfl,rfl⟩ := trodVars_none hV
  obtain ⟨c0,rfl⟩ := agg_of (t := 26) Tryz.underlying26 (hval 0 26 v0 rfl rfl)
  obtain ⟨c1,rfl⟩ := agg_of (t := 30) Tryz.underlying30 (hval 1 30 v1 rfl rfl)
  obtain ⟨f0,h0⟩ := h0
  obtain ⟨f1,h1⟩ := h1
  obtain ⟨s,rfl,rfl,rfl,_⟩ := Go.ChangeMaps.open_string Tryz.underlying9 (hval 2 9 v2 rfl rfl) h2
  obtain ⟨a,ha,va⟩ := trod_av caseTy ok26 h0
  obtain ⟨b,hb,vb⟩ := trod_av typTy ok30 h1
  have hv : VRs W (ρ0 W) (Lv (ρ0 W) Abs.h0) [.agg a,.agg b,.str (bytesL s)] [.agg c0,.agg c1,.string s] := by
    simp only [VRs,VR]
    exact ⟨_,_,rfl,⟨_,rfl,va⟩,_,_,rfl,⟨_,rfl,vb⟩,_,_,rfl,⟨s,rfl,rfl⟩,rfl⟩
  refine (run W _ _ _ a b (bytesL s) hv ha hb).mono fun e W' ⟨he,hk,hsz,hos,hout⟩ => ⟨_,he,?_⟩
  have hlt := DataW.TrodAll.lt hAk
  refine ⟨[d0,d1,_],[],_,[],p0 ++ p1 ++ [],[],hW',?_,?_,rfl,?_,fun h => by cases h⟩
  · exact trodAll_mk1 (shut_bool Tryz.underlying4 true)
  · exact trodAll_carry (DataW.TrodAll.respare kids full params_lt hAk (fun p hp => by simpa using hlt p hp)) (fun p hp => sameAt_of hk (hlt p hp))
  · refine ⟨hos,hout,fun i hi => ?_⟩
    rw [hk i hi]
    cases W.heap[i]? with
    | none => rfl
    | some o => cases o <;> simp
end Go.Proofs.YthfmfbbfaiohcaaGreatDoor
end
