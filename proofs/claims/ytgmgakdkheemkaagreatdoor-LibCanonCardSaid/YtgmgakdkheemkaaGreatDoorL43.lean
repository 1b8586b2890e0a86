/- A part of the proof that LibSwaps answers true at every input: AbsKpad. -/
import Derived.Test.YtgmgakdkheemkaaGreatDoorL39
import Derived.Test.YtgmgakdkheemkaaGreatDoorL40
import Derived.Test.YtgmgakdkheemkaaGreatDoorL41
import Derived.Test.YtgmgakdkheemkaaGreatDoorL42
import Derived.Test.YtgmgakdkheemkaaGreatDoorL25
import Derived.Test.YtgmgakdkheemkaaGreatDoorL26
import Derived.Test.YtgmgakdkheemkaaGreatDoorL27
section
namespace Go.Abs.T
open Go.Abs.Sym
open Go.Proofs
def padTab (k b : Nat) : List (Pth × List AV × AV) := [0,1,2,3,4].flatMap fun s => [0,1,2,3].map fun d => (f_padErr,[.agg (padC (padOf k b s d))],i0)
theorem padTab_mem {k b s d : Nat} (hs : s < 5) (hd : d < 4) : (f_padErr,[.agg (padC (padOf k b s d))],i0) ∈ padTab k b :=
  List.mem_flatMap.2 ⟨s,by simp only [List.mem_cons,List.not_mem_nil,or_false]; omega,List.mem_map.2 ⟨d,by simp only [List.mem_cons,List.not_mem_nil,or_false]; omega,rfl⟩⟩
theorem eqP00 : padTab 0 0 = tabP00 := by kernel_rfl
theorem eqP01 : padTab 0 1 = tabP01 := by kernel_rfl
theorem eqP10 : padTab 1 0 = tabP10 := by kernel_rfl
theorem eqP11 : padTab 1 1 = tabP11 := by kernel_rfl
theorem eqP20 : padTab 2 0 = tabP20 := by kernel_rfl
theorem eqP21 : padTab 2 1 = tabP21 := by kernel_rfl
theorem eqP30 : padTab 3 0 = tabP30 := by kernel_rfl
theorem eqP31 : padTab 3 1 = tabP31 := by kernel_rfl
theorem eqP40 : padTab 4 0 = tabP40 := by kernel_rfl
theorem eqP41 : padTab 4 1 = tabP41 := by kernel_rfl
theorem eqP50 : padTab 5 0 = tabP50 := by kernel_rfl
theorem eqP51 : padTab 5 1 = tabP51 := by kernel_rfl
def PadRow (e : Pth × List AV × AV) : Prop := ∃ X,@XOK triv Tryz.prog X ∧ X.globs = .lf ∧ RowF X e
theorem padRow {e m p : List (Pth × List AV × AV)} (he : Rows XR e) (hm : Rows (XEof e) m) (hp : Rows (XMof e m) p) {k b : Nat} (hq : padTab k b = p) {s d : Nat} (hs : s < 5) (hd : d < 4) : PadRow (f_padErr,[.agg (padC (padOf k b s d))],i0) :=
  ⟨_,okM (envI := triv) he hm,rfl,hp.ok _ (hq ▸ padTab_mem hs hd)⟩
theorem rowsP (k b s d : Nat) (hk : k < 6) (hb : b < 2) (hs : s < 5) (hd : d < 4) : PadRow (f_padErr,[.agg (padC (padOf k b s d))],i0) := by
  match k,hk,b,hb with
  | 0,_,0,_ => exact padRow rowsE00 rowsM00 rowsP00 eqP00 hs hd
  | 0,_,1,_ => exact padRow rowsE01 rowsM01 rowsP01 eqP01 hs hd
  | 1,_,0,_ => exact padRow rowsE10 rowsM10 rowsP10 eqP10 hs hd
  | 1,_,1,_ => exact padRow rowsE11 rowsM11 rowsP11 eqP11 hs hd
  | 2,_,0,_ => exact padRow rowsE20 rowsM20 rowsP20 eqP20 hs hd
  | 2,_,1,_ => exact padRow rowsE21 rowsM21 rowsP21 eqP21 hs hd
  | 3,_,0,_ => exact padRow rowsE30 rowsM30 rowsP30 eqP30 hs hd
  | 3,_,1,_ => exact padRow rowsE31 rowsM31 rowsP31 eqP31 hs hd
  | 4,_,0,_ => exact padRow rowsE40 rowsM40 rowsP40 eqP40 hs hd
  | 4,_,1,_ => exact padRow rowsE41 rowsM41 rowsP41 eqP41 hs hd
  | 5,_,0,_ => exact padRow rowsE50 rowsM50 rowsP50 eqP50 hs hd
  | 5,_,1,_ => exact padRow rowsE51 rowsM51 rowsP51 eqP51 hs hd
theorem rN0 : rowB X0 100 (tabN.getD 0 (f_right,[],i0)) = true := by kernel_rfl
theorem rN1 : rowB X0 100 (tabN.getD 1 (f_right,[],i0)) = true := by kernel_rfl
theorem rN2 : rowB X0 100 (tabN.getD 2 (f_right,[],i0)) = true := by kernel_rfl
theorem rN3 : rowB X0 100 (tabN.getD 3 (f_right,[],i0)) = true := by kernel_rfl
theorem rN4 : rowB X0 100 (tabN.getD 4 (f_right,[],i0)) = true := by kernel_rfl
theorem rN5 : rowB X0 100 (tabN.getD 5 (f_right,[],i0)) = true := by kernel_rfl
theorem rN6 : rowB X0 100 (tabN.getD 6 (f_right,[],i0)) = true := by kernel_rfl
theorem rowsN : Rows X0 tabN := .s rN0 (.s rN1 (.s rN2 (.s rN3 (.s rN4 (.s rN5 (.s rN6 .z))))))
end Go.Abs.T
end
