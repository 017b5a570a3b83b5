/- What this text holds: the document's answer for which programs may be, and for a program's instructions. No condition. -/
import Derived.Test.YtkobeajbiendlaaDoorCor
import Derived.Test.YtkobeajbiendlaaDoorBnk
import Derived.BigRegion
namespace Go.Proofs.YtkobeajbiendlaaDoor
open Go.RowKit

theorem rword_no (k : Int) (h : opB k = false) (w : World) : Calls Tryd.prog 86 #[.int .i64 k] w fun e w' => e = .returned (.string (⟨#[]⟩ : ByteArray)) ∧ Below w.heap.size w w' := by
  by_cases h1 : k < 1
  · have e1 : decide (k < 1) = true := by simpa using h1
    clear h
    go_enter Tryd.func86, Tryd.ntmps86
    go_wp2_with fail
    go_ret
    exact ⟨rfl, Below.refl _ _⟩
  · have e1 : decide (k < 1) = false := by simpa using h1
    have e2 : decide (k > 11) = true := by
      have : ¬ (1 ≤ k ∧ k < 12) := fun ⟨a, b⟩ => by rw [opB, decide_eq_true a, decide_eq_true b] at h; cases h
      simp; omega
    clear h
    go_enter Tryd.func86, Tryd.ntmps86
    go_wp2_with fail
    go_ret
    exact ⟨rfl, Below.refl _ _⟩
theorem rword_1 (w : World) : Calls Tryd.prog 86 #[.int .i64 1] w fun e w' => ∃ s : ByteArray, e = .returned (.string s) ∧ s.toList.isEmpty = false ∧ Below w.heap.size w w' := by
  go_enter Tryd.func86, Tryd.ntmps86
  go_wp2_with fail
  go_ret
  exact ⟨_, rfl, by kernel_rfl, (by repeat (with_reducible first | exact Below.refl _ _ | assumption | (refine ext_next (by assumption) ?_) | apply ext_alloc | apply ext_past | apply ext_drew | apply ext_drewN))⟩
theorem rmany_1 (w : World) : Calls Tryd.prog 87 #[.int .i64 1] w fun e w' => e = .returned (.int .i64 2) ∧ Below w.heap.size w w' := by
  go_enter Tryd.func87, Tryd.ntmps87
  go_wp2_with fail
  go_ret
  exact ⟨rfl, (by repeat (with_reducible first | exact Below.refl _ _ | assumption | (refine ext_next (by assumption) ?_) | apply ext_alloc | apply ext_past | apply ext_drew | apply ext_drewN))⟩
theorem rmost_1_0 (m : Int) (w : World) : Calls Tryd.prog 88 #[.int .i64 1, .int .i64 0, .int .i64 m] w fun e w' => e = .returned (.tuple #[.int .i64 0, .int .i64 3, .bool true]) ∧ Below w.heap.size w w' := by
  go_enter Tryd.func88, Tryd.ntmps88
  go_wp2_with fail
  go_ret3
  exact ⟨rfl, (by repeat (with_reducible first | exact Below.refl _ _ | assumption | (refine ext_next (by assumption) ?_) | apply ext_alloc | apply ext_past | apply ext_drew | apply ext_drewN))⟩
theorem rmost_1_1 (m : Int) (w : World) : Calls Tryd.prog 88 #[.int .i64 1, .int .i64 1, .int .i64 m] w fun e w' => e = .returned (.tuple #[.int .i64 0, .int .i64 0, .bool false]) ∧ Below w.heap.size w w' := by
  go_enter Tryd.func88, Tryd.ntmps88
  go_wp2_with fail
  go_ret3
  exact ⟨rfl, (by repeat (with_reducible first | exact Below.refl _ _ | assumption | (refine ext_next (by assumption) ?_) | apply ext_alloc | apply ext_past | apply ext_drew | apply ext_drewN))⟩
theorem rword_2 (w : World) : Calls Tryd.prog 86 #[.int .i64 2] w fun e w' => ∃ s : ByteArray, e = .returned (.string s) ∧ s.toList.isEmpty = false ∧ Below w.heap.size w w' := by
  go_enter Tryd.func86, Tryd.ntmps86
  go_wp2_with fail
  go_ret
  exact ⟨_, rfl, by kernel_rfl, (by repeat (with_reducible first | exact Below.refl _ _ | assumption | (refine ext_next (by assumption) ?_) | apply ext_alloc | apply ext_past | apply ext_drew | apply ext_drewN))⟩
theorem rmany_2 (w : World) : Calls Tryd.prog 87 #[.int .i64 2] w fun e w' => e = .returned (.int .i64 3) ∧ Below w.heap.size w w' := by
  go_enter Tryd.func87, Tryd.ntmps87
  go_wp2_with fail
  go_ret
  exact ⟨rfl, (by repeat (with_reducible first | exact Below.refl _ _ | assumption | (refine ext_next (by assumption) ?_) | apply ext_alloc | apply ext_past | apply ext_drew | apply ext_drewN))⟩
theorem rmost_2_0 (m : Int) (w : World) : Calls Tryd.prog 88 #[.int .i64 2, .int .i64 0, .int .i64 m] w fun e w' => e = .returned (.tuple #[.int .i64 0, .int .i64 3, .bool true]) ∧ Below w.heap.size w w' := by
  go_enter Tryd.func88, Tryd.ntmps88
  go_wp2_with fail
  go_ret3
  exact ⟨rfl, (by repeat (with_reducible first | exact Below.refl _ _ | assumption | (refine ext_next (by assumption) ?_) | apply ext_alloc | apply ext_past | apply ext_drew | apply ext_drewN))⟩
theorem rmost_2_1 (m : Int) (w : World) : Calls Tryd.prog 88 #[.int .i64 2, .int .i64 1, .int .i64 m] w fun e w' => e = .returned (.tuple #[.int .i64 0, .int .i64 3, .bool true]) ∧ Below w.heap.size w w' := by
  go_enter Tryd.func88, Tryd.ntmps88
  go_wp2_with fail
  go_ret3
  exact ⟨rfl, (by repeat (with_reducible first | exact Below.refl _ _ | assumption | (refine ext_next (by assumption) ?_) | apply ext_alloc | apply ext_past | apply ext_drew | apply ext_drewN))⟩
theorem rmost_2_2 (m : Int) (w : World) : Calls Tryd.prog 88 #[.int .i64 2, .int .i64 2, .int .i64 m] w fun e w' => e = .returned (.tuple #[.int .i64 0, .int .i64 3, .bool true]) ∧ Below w.heap.size w w' := by
  go_enter Tryd.func88, Tryd.ntmps88
  go_wp2_with fail
  go_ret3
  exact ⟨rfl, (by repeat (with_reducible first | exact Below.refl _ _ | assumption | (refine ext_next (by assumption) ?_) | apply ext_alloc | apply ext_past | apply ext_drew | apply ext_drewN))⟩
theorem rword_3 (w : World) : Calls Tryd.prog 86 #[.int .i64 3] w fun e w' => ∃ s : ByteArray, e = .returned (.string s) ∧ s.toList.isEmpty = false ∧ Below w.heap.size w w' := by
  go_enter Tryd.func86, Tryd.ntmps86
  go_wp2_with fail
  go_ret
  exact ⟨_, rfl, by kernel_rfl, (by repeat (with_reducible first | exact Below.refl _ _ | assumption | (refine ext_next (by assumption) ?_) | apply ext_alloc | apply ext_past | apply ext_drew | apply ext_drewN))⟩
theorem rmany_3 (w : World) : Calls Tryd.prog 87 #[.int .i64 3] w fun e w' => e = .returned (.int .i64 2) ∧ Below w.heap.size w w' := by
  go_enter Tryd.func87, Tryd.ntmps87
  go_wp2_with fail
  go_ret
  exact ⟨rfl, (by repeat (with_reducible first | exact Below.refl _ _ | assumption | (refine ext_next (by assumption) ?_) | apply ext_alloc | apply ext_past | apply ext_drew | apply ext_drewN))⟩
theorem rmost_3_0 (m : Int) (w : World) : Calls Tryd.prog 88 #[.int .i64 3, .int .i64 0, .int .i64 m] w fun e w' => e = .returned (.tuple #[.int .i64 0, .int .i64 3, .bool true]) ∧ Below w.heap.size w w' := by
  go_enter Tryd.func88, Tryd.ntmps88
  go_wp2_with fail
  go_ret3
  exact ⟨rfl, (by repeat (with_reducible first | exact Below.refl _ _ | assumption | (refine ext_next (by assumption) ?_) | apply ext_alloc | apply ext_past | apply ext_drew | apply ext_drewN))⟩
theorem rmost_3_1 (m : Int) (w : World) : Calls Tryd.prog 88 #[.int .i64 3, .int .i64 1, .int .i64 m] w fun e w' => e = .returned (.tuple #[.int .i64 0, .int .i64 3, .bool true]) ∧ Below w.heap.size w w' := by
  go_enter Tryd.func88, Tryd.ntmps88
  go_wp2_with fail
  go_ret3
  exact ⟨rfl, (by repeat (with_reducible first | exact Below.refl _ _ | assumption | (refine ext_next (by assumption) ?_) | apply ext_alloc | apply ext_past | apply ext_drew | apply ext_drewN))⟩
theorem rword_4 (w : World) : Calls Tryd.prog 86 #[.int .i64 4] w fun e w' => ∃ s : ByteArray, e = .returned (.string s) ∧ s.toList.isEmpty = false ∧ Below w.heap.size w w' := by
  go_enter Tryd.func86, Tryd.ntmps86
  go_wp2_with fail
  go_ret
  exact ⟨_, rfl, by kernel_rfl, (by repeat (with_reducible first | exact Below.refl _ _ | assumption | (refine ext_next (by assumption) ?_) | apply ext_alloc | apply ext_past | apply ext_drew | apply ext_drewN))⟩
theorem rmany_4 (w : World) : Calls Tryd.prog 87 #[.int .i64 4] w fun e w' => e = .returned (.int .i64 2) ∧ Below w.heap.size w w' := by
  go_enter Tryd.func87, Tryd.ntmps87
  go_wp2_with fail
  go_ret
  exact ⟨rfl, (by repeat (with_reducible first | exact Below.refl _ _ | assumption | (refine ext_next (by assumption) ?_) | apply ext_alloc | apply ext_past | apply ext_drew | apply ext_drewN))⟩
theorem rmost_4_0 (m : Int) (w : World) : Calls Tryd.prog 88 #[.int .i64 4, .int .i64 0, .int .i64 m] w fun e w' => e = .returned (.tuple #[.int .i64 0, .int .i64 3, .bool true]) ∧ Below w.heap.size w w' := by
  go_enter Tryd.func88, Tryd.ntmps88
  go_wp2_with fail
  go_ret3
  exact ⟨rfl, (by repeat (with_reducible first | exact Below.refl _ _ | assumption | (refine ext_next (by assumption) ?_) | apply ext_alloc | apply ext_past | apply ext_drew | apply ext_drewN))⟩
theorem rmost_4_1 (m : Int) (w : World) : Calls Tryd.prog 88 #[.int .i64 4, .int .i64 1, .int .i64 m] w fun e w' => e = .returned (.tuple #[.int .i64 0, .int .i64 3, .bool true]) ∧ Below w.heap.size w w' := by
  go_enter Tryd.func88, Tryd.ntmps88
  go_wp2_with fail
  go_ret3
  exact ⟨rfl, (by repeat (with_reducible first | exact Below.refl _ _ | assumption | (refine ext_next (by assumption) ?_) | apply ext_alloc | apply ext_past | apply ext_drew | apply ext_drewN))⟩
theorem rword_5 (w : World) : Calls Tryd.prog 86 #[.int .i64 5] w fun e w' => ∃ s : ByteArray, e = .returned (.string s) ∧ s.toList.isEmpty = false ∧ Below w.heap.size w w' := by
  go_enter Tryd.func86, Tryd.ntmps86
  go_wp2_with fail
  go_ret
  exact ⟨_, rfl, by kernel_rfl, (by repeat (with_reducible first | exact Below.refl _ _ | assumption | (refine ext_next (by assumption) ?_) | apply ext_alloc | apply ext_past | apply ext_drew | apply ext_drewN))⟩
theorem rmany_5 (w : World) : Calls Tryd.prog 87 #[.int .i64 5] w fun e w' => e = .returned (.int .i64 2) ∧ Below w.heap.size w w' := by
  go_enter Tryd.func87, Tryd.ntmps87
  go_wp2_with fail
  go_ret
  exact ⟨rfl, (by repeat (with_reducible first | exact Below.refl _ _ | assumption | (refine ext_next (by assumption) ?_) | apply ext_alloc | apply ext_past | apply ext_drew | apply ext_drewN))⟩
theorem rmost_5_0 (m : Int) (w : World) : Calls Tryd.prog 88 #[.int .i64 5, .int .i64 0, .int .i64 m] w fun e w' => e = .returned (.tuple #[.int .i64 0, .int .i64 3, .bool true]) ∧ Below w.heap.size w w' := by
  go_enter Tryd.func88, Tryd.ntmps88
  go_wp2_with fail
  go_ret3
  exact ⟨rfl, (by repeat (with_reducible first | exact Below.refl _ _ | assumption | (refine ext_next (by assumption) ?_) | apply ext_alloc | apply ext_past | apply ext_drew | apply ext_drewN))⟩
theorem rmost_5_1 (m : Int) (w : World) : Calls Tryd.prog 88 #[.int .i64 5, .int .i64 1, .int .i64 m] w fun e w' => e = .returned (.tuple #[.int .i64 0, .int .i64 3, .bool true]) ∧ Below w.heap.size w w' := by
  go_enter Tryd.func88, Tryd.ntmps88
  go_wp2_with fail
  go_ret3
  exact ⟨rfl, (by repeat (with_reducible first | exact Below.refl _ _ | assumption | (refine ext_next (by assumption) ?_) | apply ext_alloc | apply ext_past | apply ext_drew | apply ext_drewN))⟩
theorem rword_6 (w : World) : Calls Tryd.prog 86 #[.int .i64 6] w fun e w' => ∃ s : ByteArray, e = .returned (.string s) ∧ s.toList.isEmpty = false ∧ Below w.heap.size w w' := by
  go_enter Tryd.func86, Tryd.ntmps86
  go_wp2_with fail
  go_ret
  exact ⟨_, rfl, by kernel_rfl, (by repeat (with_reducible first | exact Below.refl _ _ | assumption | (refine ext_next (by assumption) ?_) | apply ext_alloc | apply ext_past | apply ext_drew | apply ext_drewN))⟩
theorem rmany_6 (w : World) : Calls Tryd.prog 87 #[.int .i64 6] w fun e w' => e = .returned (.int .i64 0) ∧ Below w.heap.size w w' := by
  go_enter Tryd.func87, Tryd.ntmps87
  go_wp2_with fail
  go_ret
  exact ⟨rfl, (by repeat (with_reducible first | exact Below.refl _ _ | assumption | (refine ext_next (by assumption) ?_) | apply ext_alloc | apply ext_past | apply ext_drew | apply ext_drewN))⟩
theorem rword_7 (w : World) : Calls Tryd.prog 86 #[.int .i64 7] w fun e w' => ∃ s : ByteArray, e = .returned (.string s) ∧ s.toList.isEmpty = false ∧ Below w.heap.size w w' := by
  go_enter Tryd.func86, Tryd.ntmps86
  go_wp2_with fail
  go_ret
  exact ⟨_, rfl, by kernel_rfl, (by repeat (with_reducible first | exact Below.refl _ _ | assumption | (refine ext_next (by assumption) ?_) | apply ext_alloc | apply ext_past | apply ext_drew | apply ext_drewN))⟩
theorem rmany_7 (w : World) : Calls Tryd.prog 87 #[.int .i64 7] w fun e w' => e = .returned (.int .i64 1) ∧ Below w.heap.size w w' := by
  go_enter Tryd.func87, Tryd.ntmps87
  go_wp2_with fail
  go_ret
  exact ⟨rfl, (by repeat (with_reducible first | exact Below.refl _ _ | assumption | (refine ext_next (by assumption) ?_) | apply ext_alloc | apply ext_past | apply ext_drew | apply ext_drewN))⟩
theorem rmost_7_0 (m : Int) (w : World) : Calls Tryd.prog 88 #[.int .i64 7, .int .i64 0, .int .i64 m] w fun e w' => e = .returned (.tuple #[.int .i64 1, .int .i64 3, .bool true]) ∧ Below w.heap.size w w' := by
  go_enter Tryd.func88, Tryd.ntmps88
  go_wp2_with fail
  go_ret3
  exact ⟨rfl, (by repeat (with_reducible first | exact Below.refl _ _ | assumption | (refine ext_next (by assumption) ?_) | apply ext_alloc | apply ext_past | apply ext_drew | apply ext_drewN))⟩
theorem rword_8 (w : World) : Calls Tryd.prog 86 #[.int .i64 8] w fun e w' => ∃ s : ByteArray, e = .returned (.string s) ∧ s.toList.isEmpty = false ∧ Below w.heap.size w w' := by
  go_enter Tryd.func86, Tryd.ntmps86
  go_wp2_with fail
  go_ret
  exact ⟨_, rfl, by kernel_rfl, (by repeat (with_reducible first | exact Below.refl _ _ | assumption | (refine ext_next (by assumption) ?_) | apply ext_alloc | apply ext_past | apply ext_drew | apply ext_drewN))⟩
theorem rmany_8 (w : World) : Calls Tryd.prog 87 #[.int .i64 8] w fun e w' => e = .returned (.int .i64 3) ∧ Below w.heap.size w w' := by
  go_enter Tryd.func87, Tryd.ntmps87
  go_wp2_with fail
  go_ret
  exact ⟨rfl, (by repeat (with_reducible first | exact Below.refl _ _ | assumption | (refine ext_next (by assumption) ?_) | apply ext_alloc | apply ext_past | apply ext_drew | apply ext_drewN))⟩
theorem rmost_8_0 (m : Int) (w : World) : Calls Tryd.prog 88 #[.int .i64 8, .int .i64 0, .int .i64 m] w fun e w' => e = .returned (.tuple #[.int .i64 1, .int .i64 4, .bool true]) ∧ Below w.heap.size w w' := by
  go_enter Tryd.func88, Tryd.ntmps88
  go_wp2_with fail
  go_ret3
  exact ⟨rfl, (by repeat (with_reducible first | exact Below.refl _ _ | assumption | (refine ext_next (by assumption) ?_) | apply ext_alloc | apply ext_past | apply ext_drew | apply ext_drewN))⟩
theorem rmost_8_1 (m : Int) (w : World) : Calls Tryd.prog 88 #[.int .i64 8, .int .i64 1, .int .i64 m] w fun e w' => e = .returned (.tuple #[.int .i64 0, .int .i64 3, .bool true]) ∧ Below w.heap.size w w' := by
  go_enter Tryd.func88, Tryd.ntmps88
  go_wp2_with fail
  go_ret3
  exact ⟨rfl, (by repeat (with_reducible first | exact Below.refl _ _ | assumption | (refine ext_next (by assumption) ?_) | apply ext_alloc | apply ext_past | apply ext_drew | apply ext_drewN))⟩
theorem rmost_8_2 (m : Int) (w : World) : Calls Tryd.prog 88 #[.int .i64 8, .int .i64 2, .int .i64 m] w fun e w' => e = .returned (.tuple #[.int .i64 0, .int .i64 3, .bool true]) ∧ Below w.heap.size w w' := by
  go_enter Tryd.func88, Tryd.ntmps88
  go_wp2_with fail
  go_ret3
  exact ⟨rfl, (by repeat (with_reducible first | exact Below.refl _ _ | assumption | (refine ext_next (by assumption) ?_) | apply ext_alloc | apply ext_past | apply ext_drew | apply ext_drewN))⟩
theorem rword_9 (w : World) : Calls Tryd.prog 86 #[.int .i64 9] w fun e w' => ∃ s : ByteArray, e = .returned (.string s) ∧ s.toList.isEmpty = false ∧ Below w.heap.size w w' := by
  go_enter Tryd.func86, Tryd.ntmps86
  go_wp2_with fail
  go_ret
  exact ⟨_, rfl, by kernel_rfl, (by repeat (with_reducible first | exact Below.refl _ _ | assumption | (refine ext_next (by assumption) ?_) | apply ext_alloc | apply ext_past | apply ext_drew | apply ext_drewN))⟩
theorem rmany_9 (w : World) : Calls Tryd.prog 87 #[.int .i64 9] w fun e w' => e = .returned (.int .i64 1) ∧ Below w.heap.size w w' := by
  go_enter Tryd.func87, Tryd.ntmps87
  go_wp2_with fail
  go_ret
  exact ⟨rfl, (by repeat (with_reducible first | exact Below.refl _ _ | assumption | (refine ext_next (by assumption) ?_) | apply ext_alloc | apply ext_past | apply ext_drew | apply ext_drewN))⟩
theorem rmost_9_0 (m : Int) (w : World) : Calls Tryd.prog 88 #[.int .i64 9, .int .i64 0, .int .i64 m] w fun e w' => e = .returned (.tuple #[.int .i64 0, .int .i64 m, .bool true]) ∧ Below w.heap.size w w' := by
  go_enter Tryd.func88, Tryd.ntmps88
  go_wp2_with fail
  go_ret3
  exact ⟨rfl, (by repeat (with_reducible first | exact Below.refl _ _ | assumption | (refine ext_next (by assumption) ?_) | apply ext_alloc | apply ext_past | apply ext_drew | apply ext_drewN))⟩
theorem rword_10 (w : World) : Calls Tryd.prog 86 #[.int .i64 10] w fun e w' => ∃ s : ByteArray, e = .returned (.string s) ∧ s.toList.isEmpty = false ∧ Below w.heap.size w w' := by
  go_enter Tryd.func86, Tryd.ntmps86
  go_wp2_with fail
  go_ret
  exact ⟨_, rfl, by kernel_rfl, (by repeat (with_reducible first | exact Below.refl _ _ | assumption | (refine ext_next (by assumption) ?_) | apply ext_alloc | apply ext_past | apply ext_drew | apply ext_drewN))⟩
theorem rmany_10 (w : World) : Calls Tryd.prog 87 #[.int .i64 10] w fun e w' => e = .returned (.int .i64 2) ∧ Below w.heap.size w w' := by
  go_enter Tryd.func87, Tryd.ntmps87
  go_wp2_with fail
  go_ret
  exact ⟨rfl, (by repeat (with_reducible first | exact Below.refl _ _ | assumption | (refine ext_next (by assumption) ?_) | apply ext_alloc | apply ext_past | apply ext_drew | apply ext_drewN))⟩
theorem rmost_10_0 (m : Int) (w : World) : Calls Tryd.prog 88 #[.int .i64 10, .int .i64 0, .int .i64 m] w fun e w' => e = .returned (.tuple #[.int .i64 0, .int .i64 3, .bool true]) ∧ Below w.heap.size w w' := by
  go_enter Tryd.func88, Tryd.ntmps88
  go_wp2_with fail
  go_ret3
  exact ⟨rfl, (by repeat (with_reducible first | exact Below.refl _ _ | assumption | (refine ext_next (by assumption) ?_) | apply ext_alloc | apply ext_past | apply ext_drew | apply ext_drewN))⟩
theorem rmost_10_1 (m : Int) (w : World) : Calls Tryd.prog 88 #[.int .i64 10, .int .i64 1, .int .i64 m] w fun e w' => e = .returned (.tuple #[.int .i64 0, .int .i64 m, .bool true]) ∧ Below w.heap.size w w' := by
  go_enter Tryd.func88, Tryd.ntmps88
  go_wp2_with fail
  go_ret3
  exact ⟨rfl, (by repeat (with_reducible first | exact Below.refl _ _ | assumption | (refine ext_next (by assumption) ?_) | apply ext_alloc | apply ext_past | apply ext_drew | apply ext_drewN))⟩
theorem rword_11 (w : World) : Calls Tryd.prog 86 #[.int .i64 11] w fun e w' => ∃ s : ByteArray, e = .returned (.string s) ∧ s.toList.isEmpty = false ∧ Below w.heap.size w w' := by
  go_enter Tryd.func86, Tryd.ntmps86
  go_wp2_with fail
  go_ret
  exact ⟨_, rfl, by kernel_rfl, (by repeat (with_reducible first | exact Below.refl _ _ | assumption | (refine ext_next (by assumption) ?_) | apply ext_alloc | apply ext_past | apply ext_drew | apply ext_drewN))⟩
theorem rmany_11 (w : World) : Calls Tryd.prog 87 #[.int .i64 11] w fun e w' => e = .returned (.int .i64 0) ∧ Below w.heap.size w w' := by
  go_enter Tryd.func87, Tryd.ntmps87
  go_wp2_with fail
  go_ret
  exact ⟨rfl, (by repeat (with_reducible first | exact Below.refl _ _ | assumption | (refine ext_next (by assumption) ?_) | apply ext_alloc | apply ext_past | apply ext_drew | apply ext_drewN))⟩
theorem op_cases {k : Int} (h : opB k = true) : k = 1 ∨ k = 2 ∨ k = 3 ∨ k = 4 ∨ k = 5 ∨ k = 6 ∨ k = 7 ∨ k = 8 ∨ k = 9 ∨ k = 10 ∨ k = 11 := by
  simp [opB] at h
  omega
theorem rword_yes (k : Int) (h : opB k = true) (w : World) : Calls Tryd.prog 86 #[.int .i64 k] w fun e w' => ∃ s : ByteArray, e = .returned (.string s) ∧ s.toList.isEmpty = false ∧ Below w.heap.size w w' := by
  rcases op_cases h with rfl | rfl | rfl | rfl | rfl | rfl | rfl | rfl | rfl | rfl | rfl
  · exact rword_1 w
  · exact rword_2 w
  · exact rword_3 w
  · exact rword_4 w
  · exact rword_5 w
  · exact rword_6 w
  · exact rword_7 w
  · exact rword_8 w
  · exact rword_9 w
  · exact rword_10 w
  · exact rword_11 w
def manyN (k : Nat) : Int := ([0, 2, 3, 2, 2, 2, 0, 1, 3, 1, 2, 0] : List Int)[k]?.getD 0
theorem rmany_any (k : Int) (h : opB k = true) (w : World) : Calls Tryd.prog 87 #[.int .i64 k] w fun e w' => e = .returned (.int .i64 (manyN k.toNat)) ∧ Below w.heap.size w w' := by
  rcases op_cases h with rfl | rfl | rfl | rfl | rfl | rfl | rfl | rfl | rfl | rfl | rfl
  · exact rmany_1 w
  · exact rmany_2 w
  · exact rmany_3 w
  · exact rmany_4 w
  · exact rmany_5 w
  · exact rmany_6 w
  · exact rmany_7 w
  · exact rmany_8 w
  · exact rmany_9 w
  · exact rmany_10 w
  · exact rmany_11 w
/-- What Most tells of a number of a kind. -/
def mostK (t m : Int) : Int × Int × Bool := if t = 1 then (0, 3, true) else if t = 2 then (0, 0, false) else if t = 3 then (1, 3, true) else if t = 4 then (1, 4, true) else (0, m, true)
theorem mostK_fit (t m n : Int) (h1 : 1 ≤ t) (h5 : t ≤ 5) : ((mostK t m).2.2 && (decide (n < (mostK t m).1) || decide (n > (mostK t m).2.1))) = !fitB t n m := by
  have : t = 1 ∨ t = 2 ∨ t = 3 ∨ t = 4 ∨ t = 5 := by omega
  rcases this with rfl | rfl | rfl | rfl | rfl
  · rw [Bool.eq_iff_iff]; simp [mostK, fitB]; omega
  · simp [mostK, fitB]
  all_goals (rw [Bool.eq_iff_iff]; simp [mostK, fitB]; try omega)
theorem rmost_any (k : Int) (i : Nat) (m : Int) (h : opB k = true) (hi : i < 3) (hn : (i : Int) < manyN k.toNat) (w : World) : Calls Tryd.prog 88 #[.int .i64 k, .int .i64 i, .int .i64 m] w fun e w' => e = .returned (.tuple #[.int .i64 (mostK (numb k.toNat i) m).1, .int .i64 (mostK (numb k.toNat i) m).2.1, .bool (mostK (numb k.toNat i) m).2.2]) ∧ Below w.heap.size w w' := by
  have h3 : i = 0 ∨ i = 1 ∨ i = 2 := by omega
  rcases op_cases h with rfl | rfl | rfl | rfl | rfl | rfl | rfl | rfl | rfl | rfl | rfl
  · rcases h3 with rfl | rfl | rfl
    · exact rmost_1_0 m w
    · exact rmost_1_1 m w
    · exact absurd hn (by decide)
  · rcases h3 with rfl | rfl | rfl
    · exact rmost_2_0 m w
    · exact rmost_2_1 m w
    · exact rmost_2_2 m w
  · rcases h3 with rfl | rfl | rfl
    · exact rmost_3_0 m w
    · exact rmost_3_1 m w
    · exact absurd hn (by decide)
  · rcases h3 with rfl | rfl | rfl
    · exact rmost_4_0 m w
    · exact rmost_4_1 m w
    · exact absurd hn (by decide)
  · rcases h3 with rfl | rfl | rfl
    · exact rmost_5_0 m w
    · exact rmost_5_1 m w
    · exact absurd hn (by decide)
  · rcases h3 with rfl | rfl | rfl
    · exact absurd hn (by decide)
    · exact absurd hn (by decide)
    · exact absurd hn (by decide)
  · rcases h3 with rfl | rfl | rfl
    · exact rmost_7_0 m w
    · exact absurd hn (by decide)
    · exact absurd hn (by decide)
  · rcases h3 with rfl | rfl | rfl
    · exact rmost_8_0 m w
    · exact rmost_8_1 m w
    · exact rmost_8_2 m w
  · rcases h3 with rfl | rfl | rfl
    · exact rmost_9_0 m w
    · exact absurd hn (by decide)
    · exact absurd hn (by decide)
  · rcases h3 with rfl | rfl | rfl
    · exact rmost_10_0 m w
    · exact rmost_10_1 m w
    · exact absurd hn (by decide)
  · rcases h3 with rfl | rfl | rfl
    · exact absurd hn (by decide)
    · exact absurd hn (by decide)
    · exact absurd hn (by decide)
theorem numb_kind (k : Int) (i : Nat) (h : opB k = true) (hi : i < 3) : ((i : Int) < manyN k.toNat → 1 ≤ numb k.toNat i ∧ numb k.toNat i ≤ 5) ∧ (manyN k.toNat ≤ (i : Int) → numb k.toNat i = 0) := by
  have h3 : i = 0 ∨ i = 1 ∨ i = 2 := by omega
  rcases op_cases h with rfl | rfl | rfl | rfl | rfl | rfl | rfl | rfl | rfl | rfl | rfl <;> rcases h3 with rfl | rfl | rfl <;> decide
def nI (x : Ins) (i : Nat) : Int := if i = 0 then x.a else if i = 1 then x.b else x.c
def okK (x : Ins) (m : Int) (i : Nat) : Bool := fitB (numb x.op.toNat i) (nI x i) m
theorem mayV_ok {x : Ins} {m : Int} (h : opB x.op = true) (k : ∀ i, i < 3 → okK x m i = true) : mayV x m = 0 := by
  have h0 := k 0 (by omega)
  have h1 := k 1 (by omega)
  have h2 := k 2 (by omega)
  simp [okK, nI] at h0 h1 h2
  simp [mayV, h, numsI, h0, h1, h2]
theorem mayV_no {x : Ins} {m : Int} (h : opB x.op = true) {i : Nat} (hi : i < 3) (k : okK x m i = false) : mayV x m = 10 := by
  have h3 : i = 0 ∨ i = 1 ∨ i = 2 := by omega
  rcases h3 with rfl | rfl | rfl <;> simp [okK, nI] at k <;> simp [mayV, h, numsI, k]
theorem cell_ins {W : World} {B : Nat} {x : Ins} {t : TypeId} (hh : W.heap[B]? = some (.cells #[.int .i64 x.op, .int .i64 x.a, .int .i64 x.b, .int .i64 x.c] t (0, 0))) (i : Nat) (hi : i < 3) : W.cell? ⟨B, 1 + i, none⟩ = some (.int .i64 (nI x i)) := by
  have h3 : i = 0 ∨ i = 1 ∨ i = 2 := by omega
  rcases h3 with rfl | rfl | rfl <;> simp [World.cell?, hh, nI]
set_option maxRecDepth 100000 in
set_option maxHeartbeats 4000000 in
theorem rmay_any (x : Ins) (m : Int) (w : World) : Calls Tryd.prog 74 #[.agg #[.int .i64 x.op, .int .i64 x.a, .int .i64 x.b, .int .i64 x.c], .int .i64 m] w fun e w' => e = .returned (.int .i64 (mayV x m)) ∧ Below w.heap.size w w' := by
  cases hop : opB x.op
  · have HC := Lib.hid (fun W => rword_no x.op hop W)
    have HM := Lib.hid (show mayV x m = 15 by simp [mayV, hop])
    clear hop
    go_enter Tryd.func74, Tryd.ntmps74
    go_wp2_with fail
    refine (HC.out _).mono ?_
    rintro e w1 ⟨rfl, hb⟩
    have HB := Lib.hid (ext_trans (ext_alloc (.cells #[.int .i64 x.op, .int .i64 x.a, .int .i64 x.b, .int .i64 x.c] 130) (Below.refl _ w)) hb)
    clear hb
    go_wp2_with fail
    go_ret
    exact ⟨ret_int (by rw [HM.out]), HB.out⟩
  · have HOP := Lib.hid hop
    have HC := Lib.hid (fun W => rword_yes x.op hop W)
    have HY := Lib.hid (fun W => rmany_any x.op hop W)
    clear hop
    go_enter Tryd.func74, Tryd.ntmps74
    go_wp2_with fail
    refine (HC.out _).mono ?_
    rintro e w1 ⟨s, rfl, hs, hb⟩
    have HB := Lib.hid (And.intro (ext_trans (ext_alloc (.cells #[.int .i64 x.op, .int .i64 x.a, .int .i64 x.b, .int .i64 x.c] 130) (Below.refl _ w)) hb) ((hb.block w.heap.size (by simp)).trans (alNew (o := .cells #[.int .i64 x.op, .int .i64 x.a, .int .i64 x.b, .int .i64 x.c] 130) rfl)))
    clear hb
    go_wp2_with fail
    clear hs
    go_loopg [5] 3 (fun g s5 wr => ∃ i : Nat, s5 = .int .i64 i ∧ i + g = 3 ∧ Hid (∀ j, j < i → okK x m j = true) ∧ Hid (Below w.heap.size w wr ∧ wr.heap[w.heap.size]? = some (.cells #[.int .i64 x.op, .int .i64 x.a, .int .i64 x.b, .int .i64 x.c] 130 (0, 0))))
    case atStart => exact ⟨0, rfl, by omega, Lib.hid (fun j hj => absurd hj (by omega)), HB⟩
    case round =>
      obtain ⟨i, rfl, hi, HT, HR⟩ := hrel
      by_cases hlt : i < 3
      · have ek : decide ((i : Int) < 3) = true := by simp; omega
        have ek2 : decide (i < 3) = true := by simpa using hlt
        have c0 := cell_at HR.out.2 0 (.int .i64 x.op) rfl
        have ci := cell_ins HR.out.2 i hlt
        have hl := lt_of HR.out.2
        have HII := Lib.hid (And.intro hi hlt)
        have hi3 : (i : Int) < 3 := by omega
        have HK := Lib.hid (numb_kind x.op i HOP.out hlt)
        have HMO := Lib.hid (fun hn W => rmost_any x.op i m HOP.out hlt hn W)
        have HOK : Hid (okK x m i = fitB (numb x.op.toNat i) (nI x i) m) := Lib.hid rfl
        generalize hmn : manyN x.op.toNat = mn at *
        generalize hnb : numb x.op.toNat i = nb at *
        generalize hni : nI x i = ni at *
        clear hi hlt hmn hnb hni
        go_wp2_with fail
        refine (HY.out _).mono ?_
        rintro e w2 ⟨rfl, hb⟩
        have HR2 := Lib.hid (And.intro (ext_trans HR.out.1 hb) ((hb.block _ hl).trans HR.out.2))
        clear hb c0 ci hl
        have c0 := cell_at HR2.out.2 0 (.int .i64 x.op) rfl
        have hl := lt_of HR2.out.2
        by_cases hg : mn ≤ (i : Int)
        · have eg : decide ((i : Int) ≥ mn) = true := by simpa using hg
          have hz := HK.out.2 hg
          by_cases hn0 : ni = 0
          · have e0 : (ni != 0) = false := by simpa using hn0
            have HNX := Lib.hid (show okK x m i = true by rw [HOK.out, hz, hn0]; rfl)
            clear hg hz hn0
            go_wp2_with fail
            go_roundg (3 - (i + 1))
            case measure => have := HII.out; omega
            case rel => exact ⟨i + 1, by go_num, by have := HII.out; omega, Lib.hid (fun j hj => by
                by_cases h : j = i
                · rw [h]; exact HNX.out
                · exact HT.out j (by omega)), HR2⟩
          · have e0 : (ni != 0) = true := by simpa using hn0
            have HNX := Lib.hid (mayV_no HOP.out HII.out.2 (show okK x m i = false by rw [HOK.out, hz]; simpa [fitB] using hn0))
            clear hg hz hn0
            go_wp2_with fail
            go_ret
            exact ⟨ret_int (by rw [HNX.out]), HR2.out.1⟩
        · have eg : decide ((i : Int) ≥ mn) = false := by simp; omega
          have HF := Lib.hid (mostK_fit nb m ni (HK.out.1 (by omega)).1 (HK.out.1 (by omega)).2)
          have HMC := Lib.hid (HMO.out (by omega))
          generalize hq : mostK nb m = q at HF HMC
          obtain ⟨qa, qb, qc⟩ := q
          dsimp only at HF HMC
          clear hg hq
          cases hf : fitB nb ni m
          · have hff := HF.out
            rw [hf] at hff
            have HNX := Lib.hid (mayV_no HOP.out HII.out.2 (show okK x m i = false by rw [HOK.out, hf]))
            simp only [Bool.not_false, Bool.and_eq_true, Bool.or_eq_true] at hff
            obtain ⟨f1, f2⟩ := hff
            subst f1
            clear hf
            by_cases f3 : decide (ni < qa) = true
            · clear f2
              go_wp2_with fail
              refine (HMC.out _).mono ?_
              rintro e w3 ⟨rfl, hb⟩
              have HB3 := Lib.hid (ext_trans HR2.out.1 hb)
              clear hb
              go_wp2_with fail
              go_ret
              exact ⟨ret_int (by rw [HNX.out]), HB3.out⟩
            · have f4 := f2.resolve_left f3
              have f3 : decide (ni < qa) = false := by simpa using f3
              clear f2
              go_wp2_with fail
              refine (HMC.out _).mono ?_
              rintro e w3 ⟨rfl, hb⟩
              have HB3 := Lib.hid (ext_trans HR2.out.1 hb)
              clear hb
              go_wp2_with fail
              go_ret
              exact ⟨ret_int (by rw [HNX.out]), HB3.out⟩
          · have hff := HF.out
            rw [hf] at hff
            have HNX := Lib.hid (show okK x m i = true by rw [HOK.out, hf])
            clear hf
            cases qc
            · clear hff
              go_wp2_with fail
              refine (HMC.out _).mono ?_
              rintro e w3 ⟨rfl, hb⟩
              have HR3 := Lib.hid (And.intro (ext_trans HR2.out.1 hb) ((hb.block _ hl).trans HR2.out.2))
              clear hb c0 hl
              go_wp2_with fail
              go_roundg (3 - (i + 1))
              case measure => have := HII.out; omega
              case rel => exact ⟨i + 1, by go_num, by have := HII.out; omega, Lib.hid (fun j hj => by
                  by_cases h : j = i
                  · rw [h]; exact HNX.out
                  · exact HT.out j (by omega)), HR3⟩
            · simp only [Bool.not_true, Bool.true_and, Bool.or_eq_false_iff] at hff
              obtain ⟨f1, f2⟩ := hff
              go_wp2_with fail
              refine (HMC.out _).mono ?_
              rintro e w3 ⟨rfl, hb⟩
              have HR3 := Lib.hid (And.intro (ext_trans HR2.out.1 hb) ((hb.block _ hl).trans HR2.out.2))
              clear hb c0 hl
              go_wp2_with fail
              go_roundg (3 - (i + 1))
              case measure => have := HII.out; omega
              case rel => exact ⟨i + 1, by go_num, by have := HII.out; omega, Lib.hid (fun j hj => by
                  by_cases h : j = i
                  · rw [h]; exact HNX.out
                  · exact HT.out j (by omega)), HR3⟩
      · have ek : decide ((i : Int) < 3) = false := by simp; omega
        have ek2 : decide (i < 3) = false := by simpa using hlt
        have HE := Lib.hid (mayV_ok HOP.out (fun j hj => HT.out j (by omega)))
        clear hi hlt
        go_wp2_with fail
        go_ret
        exact ⟨ret_int (by rw [HE.out]), HR.out.1⟩

end Go.Proofs.YtkobeajbiendlaaDoor
