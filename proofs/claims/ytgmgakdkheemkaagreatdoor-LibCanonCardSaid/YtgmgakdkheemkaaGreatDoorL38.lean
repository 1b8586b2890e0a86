/- A part of the proof that LibSwaps answers true at every input: AbsKrow. -/
import Derived.Test.YtgmgakdkheemkaaGreatDoorL28
import Derived.Test.YtgmgakdkheemkaaGreatDoorL29
import Derived.Test.YtgmgakdkheemkaaGreatDoorL30
import Derived.Test.YtgmgakdkheemkaaGreatDoorL31
import Derived.Test.YtgmgakdkheemkaaGreatDoorL32
import Derived.Test.YtgmgakdkheemkaaGreatDoorL33
import Derived.Test.YtgmgakdkheemkaaGreatDoorL34
import Derived.Test.YtgmgakdkheemkaaGreatDoorL35
import Derived.Test.YtgmgakdkheemkaaGreatDoorL36
import Derived.Test.YtgmgakdkheemkaaGreatDoorL37
section
namespace Go.Abs.T
open Go.Abs.Sym
theorem chkAll : vars.all (fun v => chkB v.1 v.2) = true := by kernel_rfl
theorem swpLt : vars.all (fun v => swpC v.1 v.2) = true := by kernel_rfl
theorem swpAll : ∀ v ∈ vars,swpA v.1 v.2 = true := by
  intro v hv
  simp only [vars,List.mem_cons,List.not_mem_nil,or_false] at hv
  rcases hv with rfl | rfl | rfl | rfl | rfl | rfl | rfl | rfl | rfl | rfl | rfl | rfl | rfl | rfl | rfl | rfl | rfl | rfl | rfl | rfl | rfl
  · exact swp_2_0
  · exact swp_2_1
  · exact swp_2_2
  · exact swp_3_0
  · exact swp_3_1
  · exact swp_3_2
  · exact swp_4_0
  · exact swp_4_3
  · exact swp_4_4
  · exact swp_5_0
  · exact swp_5_3
  · exact swp_5_4
  · exact swp_6_0
  · exact swp_6_3
  · exact swp_6_4
  · exact swp_6_5
  · exact swp_6_6
  · exact swp_6_7
  · exact swp_6_8
  · exact swp_6_9
  · exact swp_6_10
theorem canA_2_0 (i : Nat) : canI 2 0 i = true := by
  match i with
  | 0 => exact can_2_0_0
  | i + 1 =>
    have h : (leavesDT [] (legsT 2 0)).length = 1 := by kernel_rfl
    simp only [canI,List.getElem?_eq_none (show (leavesDT [] (legsT 2 0)).length ≤ i + 1 by omega)]
theorem canA_2_1 (i : Nat) : canI 2 1 i = true := by
  match i with
  | 0 => exact can_2_1_0
  | i + 1 =>
    have h : (leavesDT [] (legsT 2 1)).length = 1 := by kernel_rfl
    simp only [canI,List.getElem?_eq_none (show (leavesDT [] (legsT 2 1)).length ≤ i + 1 by omega)]
theorem canA_2_2 (i : Nat) : canI 2 2 i = true := by
  match i with
  | 0 => exact can_2_2_0
  | 1 => exact can_2_2_1
  | 2 => exact can_2_2_2
  | i + 3 =>
    have h : (leavesDT [] (legsT 2 2)).length = 3 := by kernel_rfl
    simp only [canI,List.getElem?_eq_none (show (leavesDT [] (legsT 2 2)).length ≤ i + 3 by omega)]
theorem canA_3_0 (i : Nat) : canI 3 0 i = true := by
  match i with
  | 0 => exact can_3_0_0
  | i + 1 =>
    have h : (leavesDT [] (legsT 3 0)).length = 1 := by kernel_rfl
    simp only [canI,List.getElem?_eq_none (show (leavesDT [] (legsT 3 0)).length ≤ i + 1 by omega)]
theorem canA_3_1 (i : Nat) : canI 3 1 i = true := by
  match i with
  | 0 => exact can_3_1_0
  | i + 1 =>
    have h : (leavesDT [] (legsT 3 1)).length = 1 := by kernel_rfl
    simp only [canI,List.getElem?_eq_none (show (leavesDT [] (legsT 3 1)).length ≤ i + 1 by omega)]
theorem canA_3_2 (i : Nat) : canI 3 2 i = true := by
  match i with
  | 0 => exact can_3_2_0
  | 1 => exact can_3_2_1
  | 2 => exact can_3_2_2
  | i + 3 =>
    have h : (leavesDT [] (legsT 3 2)).length = 3 := by kernel_rfl
    simp only [canI,List.getElem?_eq_none (show (leavesDT [] (legsT 3 2)).length ≤ i + 3 by omega)]
theorem canA_4_0 (i : Nat) : canI 4 0 i = true := by
  match i with
  | 0 => exact can_4_0_0
  | i + 1 =>
    have h : (leavesDT [] (legsT 4 0)).length = 1 := by kernel_rfl
    simp only [canI,List.getElem?_eq_none (show (leavesDT [] (legsT 4 0)).length ≤ i + 1 by omega)]
theorem canA_4_3 (i : Nat) : canI 4 3 i = true := by
  match i with
  | 0 => exact can_4_3_0
  | i + 1 =>
    have h : (leavesDT [] (legsT 4 3)).length = 1 := by kernel_rfl
    simp only [canI,List.getElem?_eq_none (show (leavesDT [] (legsT 4 3)).length ≤ i + 1 by omega)]
theorem canA_4_4 (i : Nat) : canI 4 4 i = true := by
  match i with
  | 0 => exact can_4_4_0
  | 1 => exact can_4_4_1
  | 2 => exact can_4_4_2
  | 3 => exact can_4_4_3
  | 4 => exact can_4_4_4
  | 5 => exact can_4_4_5
  | 6 => exact can_4_4_6
  | 7 => exact can_4_4_7
  | 8 => exact can_4_4_8
  | i + 9 =>
    have h : (leavesDT [] (legsT 4 4)).length = 9 := by kernel_rfl
    simp only [canI,List.getElem?_eq_none (show (leavesDT [] (legsT 4 4)).length ≤ i + 9 by omega)]
theorem canA_5_0 (i : Nat) : canI 5 0 i = true := by
  match i with
  | 0 => exact can_5_0_0
  | i + 1 =>
    have h : (leavesDT [] (legsT 5 0)).length = 1 := by kernel_rfl
    simp only [canI,List.getElem?_eq_none (show (leavesDT [] (legsT 5 0)).length ≤ i + 1 by omega)]
theorem canA_5_3 (i : Nat) : canI 5 3 i = true := by
  match i with
  | 0 => exact can_5_3_0
  | i + 1 =>
    have h : (leavesDT [] (legsT 5 3)).length = 1 := by kernel_rfl
    simp only [canI,List.getElem?_eq_none (show (leavesDT [] (legsT 5 3)).length ≤ i + 1 by omega)]
theorem canA_5_4 (i : Nat) : canI 5 4 i = true := by
  match i with
  | 0 => exact can_5_4_0
  | 1 => exact can_5_4_1
  | 2 => exact can_5_4_2
  | 3 => exact can_5_4_3
  | 4 => exact can_5_4_4
  | 5 => exact can_5_4_5
  | 6 => exact can_5_4_6
  | 7 => exact can_5_4_7
  | 8 => exact can_5_4_8
  | i + 9 =>
    have h : (leavesDT [] (legsT 5 4)).length = 9 := by kernel_rfl
    simp only [canI,List.getElem?_eq_none (show (leavesDT [] (legsT 5 4)).length ≤ i + 9 by omega)]
theorem canA_6_0 (i : Nat) : canI 6 0 i = true := by
  match i with
  | 0 => exact can_6_0_0
  | i + 1 =>
    have h : (leavesDT [] (legsT 6 0)).length = 1 := by kernel_rfl
    simp only [canI,List.getElem?_eq_none (show (leavesDT [] (legsT 6 0)).length ≤ i + 1 by omega)]
theorem canA_6_3 (i : Nat) : canI 6 3 i = true := by
  match i with
  | 0 => exact can_6_3_0
  | i + 1 =>
    have h : (leavesDT [] (legsT 6 3)).length = 1 := by kernel_rfl
    simp only [canI,List.getElem?_eq_none (show (leavesDT [] (legsT 6 3)).length ≤ i + 1 by omega)]
theorem canA_6_4 (i : Nat) : canI 6 4 i = true := by
  match i with
  | 0 => exact can_6_4_0
  | 1 => exact can_6_4_1
  | 2 => exact can_6_4_2
  | 3 => exact can_6_4_3
  | 4 => exact can_6_4_4
  | 5 => exact can_6_4_5
  | 6 => exact can_6_4_6
  | 7 => exact can_6_4_7
  | 8 => exact can_6_4_8
  | i + 9 =>
    have h : (leavesDT [] (legsT 6 4)).length = 9 := by kernel_rfl
    simp only [canI,List.getElem?_eq_none (show (leavesDT [] (legsT 6 4)).length ≤ i + 9 by omega)]
theorem canA_6_5 (i : Nat) : canI 6 5 i = true := by
  match i with
  | 0 => exact can_6_5_0
  | i + 1 =>
    have h : (leavesDT [] (legsT 6 5)).length = 1 := by kernel_rfl
    simp only [canI,List.getElem?_eq_none (show (leavesDT [] (legsT 6 5)).length ≤ i + 1 by omega)]
theorem canA_6_6 (i : Nat) : canI 6 6 i = true := by
  match i with
  | 0 => exact can_6_6_0
  | i + 1 =>
    have h : (leavesDT [] (legsT 6 6)).length = 1 := by kernel_rfl
    simp only [canI,List.getElem?_eq_none (show (leavesDT [] (legsT 6 6)).length ≤ i + 1 by omega)]
theorem canA_6_7 (i : Nat) : canI 6 7 i = true := by
  match i with
  | 0 => exact can_6_7_0
  | i + 1 =>
    have h : (leavesDT [] (legsT 6 7)).length = 1 := by kernel_rfl
    simp only [canI,List.getElem?_eq_none (show (leavesDT [] (legsT 6 7)).length ≤ i + 1 by omega)]
theorem canA_6_8 (i : Nat) : canI 6 8 i = true := by
  match i with
  | 0 => exact can_6_8_0
  | 1 => exact can_6_8_1
  | 2 => exact can_6_8_2
  | 3 => exact can_6_8_3
  | 4 => exact can_6_8_4
  | 5 => exact can_6_8_5
  | 6 => exact can_6_8_6
  | 7 => exact can_6_8_7
  | 8 => exact can_6_8_8
  | 9 => exact can_6_8_9
  | 10 => exact can_6_8_10
  | 11 => exact can_6_8_11
  | 12 => exact can_6_8_12
  | 13 => exact can_6_8_13
  | 14 => exact can_6_8_14
  | 15 => exact can_6_8_15
  | 16 => exact can_6_8_16
  | 17 => exact can_6_8_17
  | 18 => exact can_6_8_18
  | 19 => exact can_6_8_19
  | 20 => exact can_6_8_20
  | 21 => exact can_6_8_21
  | 22 => exact can_6_8_22
  | 23 => exact can_6_8_23
  | 24 => exact can_6_8_24
  | 25 => exact can_6_8_25
  | 26 => exact can_6_8_26
  | i + 27 =>
    have h : (leavesDT [] (legsT 6 8)).length = 27 := by kernel_rfl
    simp only [canI,List.getElem?_eq_none (show (leavesDT [] (legsT 6 8)).length ≤ i + 27 by omega)]
theorem canA_6_9 (i : Nat) : canI 6 9 i = true := by
  match i with
  | 0 => exact can_6_9_0
  | 1 => exact can_6_9_1
  | 2 => exact can_6_9_2
  | 3 => exact can_6_9_3
  | 4 => exact can_6_9_4
  | 5 => exact can_6_9_5
  | 6 => exact can_6_9_6
  | 7 => exact can_6_9_7
  | 8 => exact can_6_9_8
  | 9 => exact can_6_9_9
  | 10 => exact can_6_9_10
  | 11 => exact can_6_9_11
  | 12 => exact can_6_9_12
  | 13 => exact can_6_9_13
  | 14 => exact can_6_9_14
  | 15 => exact can_6_9_15
  | 16 => exact can_6_9_16
  | 17 => exact can_6_9_17
  | 18 => exact can_6_9_18
  | 19 => exact can_6_9_19
  | 20 => exact can_6_9_20
  | 21 => exact can_6_9_21
  | 22 => exact can_6_9_22
  | 23 => exact can_6_9_23
  | 24 => exact can_6_9_24
  | 25 => exact can_6_9_25
  | 26 => exact can_6_9_26
  | i + 27 =>
    have h : (leavesDT [] (legsT 6 9)).length = 27 := by kernel_rfl
    simp only [canI,List.getElem?_eq_none (show (leavesDT [] (legsT 6 9)).length ≤ i + 27 by omega)]
theorem canA_6_10 (i : Nat) : canI 6 10 i = true := by
  match i with
  | 0 => exact can_6_10_0
  | 1 => exact can_6_10_1
  | 2 => exact can_6_10_2
  | 3 => exact can_6_10_3
  | 4 => exact can_6_10_4
  | 5 => exact can_6_10_5
  | 6 => exact can_6_10_6
  | 7 => exact can_6_10_7
  | 8 => exact can_6_10_8
  | 9 => exact can_6_10_9
  | 10 => exact can_6_10_10
  | 11 => exact can_6_10_11
  | 12 => exact can_6_10_12
  | 13 => exact can_6_10_13
  | 14 => exact can_6_10_14
  | 15 => exact can_6_10_15
  | 16 => exact can_6_10_16
  | 17 => exact can_6_10_17
  | 18 => exact can_6_10_18
  | 19 => exact can_6_10_19
  | 20 => exact can_6_10_20
  | 21 => exact can_6_10_21
  | 22 => exact can_6_10_22
  | 23 => exact can_6_10_23
  | 24 => exact can_6_10_24
  | 25 => exact can_6_10_25
  | 26 => exact can_6_10_26
  | i + 27 =>
    have h : (leavesDT [] (legsT 6 10)).length = 27 := by kernel_rfl
    simp only [canI,List.getElem?_eq_none (show (leavesDT [] (legsT 6 10)).length ≤ i + 27 by omega)]
theorem canAll : ∀ v ∈ vars,∀ i,canI v.1 v.2 i = true := by
  intro v hv i
  simp only [vars,List.mem_cons,List.not_mem_nil,or_false] at hv
  rcases hv with rfl | rfl | rfl | rfl | rfl | rfl | rfl | rfl | rfl | rfl | rfl | rfl | rfl | rfl | rfl | rfl | rfl | rfl | rfl | rfl | rfl
  · exact canA_2_0 i
  · exact canA_2_1 i
  · exact canA_2_2 i
  · exact canA_3_0 i
  · exact canA_3_1 i
  · exact canA_3_2 i
  · exact canA_4_0 i
  · exact canA_4_3 i
  · exact canA_4_4 i
  · exact canA_5_0 i
  · exact canA_5_3 i
  · exact canA_5_4 i
  · exact canA_6_0 i
  · exact canA_6_3 i
  · exact canA_6_4 i
  · exact canA_6_5 i
  · exact canA_6_6 i
  · exact canA_6_7 i
  · exact canA_6_8 i
  · exact canA_6_9 i
  · exact canA_6_10 i
end Go.Abs.T
end
