/- What this text holds: moesi.Name, and the walk of the law MoesiStates. Condition: the table of states holds what its initialiser lays. -/
import Derived.Test.YtkfnjpmigifomaaDoorLaw06
namespace Go.Proofs.YtkfnjpmigifomaaDoor
open Go.RowKit

theorem name_no (s : Int) (w : World) (h : s < 0 ∨ 4 < s) : Calls Tryd.prog 53 #[.int .i64 s] w fun e w' => e = .returned (.string (⟨#[]⟩ : ByteArray)) ∧ w = w' := by
  have e1 := isB_no h
  clear h
  go_enter Tryd.func53, Tryd.ntmps53
  go_wp2_with (go_at_call 85; refine (is_any s _).mono ?_; rintro e w' ⟨rfl, rfl⟩)
  go_ret
  exact ⟨rfl, rfl⟩
theorem name_0 (w : World) (hR : Rws w) : Calls Tryd.prog 53 #[.int .i64 0] w fun e w' => e = .returned (.string (⟨#[73]⟩ : ByteArray)) ∧ w = w' := by
  have c1 := hR.cell 0
  simp only [List.getElem?_toArray, List.getElem?_cons_zero] at c1
  have e1 : isB 0 = true := by decide
  go_enter Tryd.func53, Tryd.ntmps53
  go_wp2_with (go_at_call 85; refine (is_any 0 _).mono ?_; rintro e w' ⟨rfl, rfl⟩)
  go_ret
  exact ⟨rfl, rfl⟩
theorem name_1 (w : World) (hR : Rws w) : Calls Tryd.prog 53 #[.int .i64 1] w fun e w' => e = .returned (.string (⟨#[83]⟩ : ByteArray)) ∧ w = w' := by
  have c1 := hR.cell 8
  simp only [List.getElem?_toArray, List.getElem?_cons_succ, List.getElem?_cons_zero] at c1
  have e1 : isB 1 = true := by decide
  go_enter Tryd.func53, Tryd.ntmps53
  go_wp2_with (go_at_call 85; refine (is_any 1 _).mono ?_; rintro e w' ⟨rfl, rfl⟩)
  go_ret
  exact ⟨rfl, rfl⟩
theorem name_2 (w : World) (hR : Rws w) : Calls Tryd.prog 53 #[.int .i64 2] w fun e w' => e = .returned (.string (⟨#[69]⟩ : ByteArray)) ∧ w = w' := by
  have c1 := hR.cell 16
  simp only [List.getElem?_toArray, List.getElem?_cons_succ, List.getElem?_cons_zero] at c1
  have e1 : isB 2 = true := by decide
  go_enter Tryd.func53, Tryd.ntmps53
  go_wp2_with (go_at_call 85; refine (is_any 2 _).mono ?_; rintro e w' ⟨rfl, rfl⟩)
  go_ret
  exact ⟨rfl, rfl⟩
theorem name_3 (w : World) (hR : Rws w) : Calls Tryd.prog 53 #[.int .i64 3] w fun e w' => e = .returned (.string (⟨#[79]⟩ : ByteArray)) ∧ w = w' := by
  have c1 := hR.cell 24
  simp only [List.getElem?_toArray, List.getElem?_cons_succ, List.getElem?_cons_zero] at c1
  have e1 : isB 3 = true := by decide
  go_enter Tryd.func53, Tryd.ntmps53
  go_wp2_with (go_at_call 85; refine (is_any 3 _).mono ?_; rintro e w' ⟨rfl, rfl⟩)
  go_ret
  exact ⟨rfl, rfl⟩
theorem name_4 (w : World) (hR : Rws w) : Calls Tryd.prog 53 #[.int .i64 4] w fun e w' => e = .returned (.string (⟨#[77]⟩ : ByteArray)) ∧ w = w' := by
  have c1 := hR.cell 32
  simp only [List.getElem?_toArray, List.getElem?_cons_succ, List.getElem?_cons_zero] at c1
  have e1 : isB 4 = true := by decide
  go_enter Tryd.func53, Tryd.ntmps53
  go_wp2_with (go_at_call 85; refine (is_any 4 _).mono ?_; rintro e w' ⟨rfl, rfl⟩)
  go_ret
  exact ⟨rfl, rfl⟩
set_option maxRecDepth 100000 in
set_option maxHeartbeats 2000000 in
theorem states_no (s : Int) (w : World) (hR : Rws w) (h : s < 0 ∨ 4 < s) : Calls Tryd.prog 8 #[.int .i64 s] w fun e w' => e = .returned (.bool true) ∧ Below w.heap.size w w' := by
  have H := Lib.hid h
  have e1 := vB_no h
  have e2 := stB_no h
  have e3 := dtB_no h
  have e4 := owB_no h
  clear h
  go_enter Tryd.func8, Tryd.ntmps8
  go_wp2_with fail
  refine (valid_no s _ H.out).mono ?_; rintro e w' ⟨rfl, rfl⟩
  rw [e1]
  go_wp2_with fail
  refine (rload_no s _ H.out).mono ?_; rintro e w' ⟨rfl, rfl⟩
  go_wp2_with fail
  refine (load_no s _ H.out).mono ?_; rintro e w' ⟨rfl, rfl⟩
  rw [e1]
  go_wp2_with fail
  refine (rload_no s _ H.out).mono ?_; rintro e w' ⟨rfl, rfl⟩
  go_wp2_with fail
  refine (store_no s _ H.out).mono ?_; rintro e w' ⟨rfl, rfl⟩
  rw [e2]
  go_wp2_with fail
  refine (rstore_no s _ H.out).mono ?_; rintro e w' ⟨rfl, rfl⟩
  go_wp2_with fail
  refine (dirty_no s _ H.out).mono ?_; rintro e w' ⟨rfl, rfl⟩
  rw [e3]
  go_wp2_with fail
  refine (rdirty_no s _ H.out).mono ?_; rintro e w' ⟨rfl, rfl⟩
  go_wp2_with fail
  refine (owner_no s _ H.out).mono ?_; rintro e w' ⟨rfl, rfl⟩
  rw [e4]
  go_wp2_with fail
  refine (rowner_no s _ H.out).mono ?_; rintro e w' ⟨rfl, rfl⟩
  go_wp2_with fail
  refine (name_no s _ H.out).mono ?_; rintro e w' ⟨rfl, rfl⟩
  go_wp2_with fail
  refine (letter_no s _ H.out).mono ?_; rintro e w' ⟨rfl, rfl⟩
  go_wp2_with fail
  refine (wrote_no s _ H.out).mono ?_; rintro e w' ⟨rfl, rfl⟩
  go_wp2_with fail
  refine (letter_no s _ H.out).mono ?_; rintro e w' ⟨rfl, rfl⟩
  go_wp2_with fail
  refine (awake06 _ hR).mono ?_; rintro e w1 ⟨rfl, hb1⟩
  go_wp2
  go_ret
  exact ⟨rfl, (by repeat (with_reducible first | exact Below.refl _ _ | assumption | (refine ext_next (by assumption) ?_) | apply ext_alloc | apply ext_past | apply ext_drew | apply ext_drewN))⟩

set_option maxRecDepth 100000 in
set_option maxHeartbeats 2000000 in
theorem states_0 (w : World) (hR : Rws w) : Calls Tryd.prog 8 #[.int .i64 0] w fun e w' => e = .returned (.bool true) ∧ Below w.heap.size w w' := by
  have e1 : vB 0 = false := by decide
  have e2 : stB 0 = false := by decide
  have e3 : dtB 0 = false := by decide
  have e4 : owB 0 = false := by decide
  go_enter Tryd.func8, Tryd.ntmps8
  go_wp2_with fail
  refine (valid_0 _ hR).mono ?_; rintro e w' ⟨rfl, rfl⟩
  rw [e1]
  go_wp2_with fail
  refine (rload_0 _).mono ?_; rintro e w' ⟨rfl, rfl⟩
  go_wp2_with fail
  refine (load_0 _ hR).mono ?_; rintro e w' ⟨rfl, rfl⟩
  rw [e1]
  go_wp2_with fail
  refine (rload_0 _).mono ?_; rintro e w' ⟨rfl, rfl⟩
  go_wp2_with fail
  refine (store_0 _ hR).mono ?_; rintro e w' ⟨rfl, rfl⟩
  rw [e2]
  go_wp2_with fail
  refine (rstore_0 _).mono ?_; rintro e w' ⟨rfl, rfl⟩
  go_wp2_with fail
  refine (dirty_0 _ hR).mono ?_; rintro e w' ⟨rfl, rfl⟩
  rw [e3]
  go_wp2_with fail
  refine (rdirty_0 _).mono ?_; rintro e w' ⟨rfl, rfl⟩
  go_wp2_with fail
  refine (owner_0 _ hR).mono ?_; rintro e w' ⟨rfl, rfl⟩
  rw [e4]
  go_wp2_with fail
  refine (rowner_0 _).mono ?_; rintro e w' ⟨rfl, rfl⟩
  go_wp2_with fail
  refine (name_0 _ hR).mono ?_; rintro e w' ⟨rfl, rfl⟩
  go_wp2_with fail
  refine (letter_0 _).mono ?_; rintro e w' ⟨rfl, rfl⟩
  go_wp2_with fail
  refine (wrote_0 _ hR).mono ?_; rintro e w' ⟨rfl, rfl⟩
  go_wp2_with fail
  refine (letter_0 _).mono ?_; rintro e w' ⟨rfl, rfl⟩
  go_wp2_with fail
  refine (rstore_0 _).mono ?_; rintro e w' ⟨rfl, rfl⟩
  go_wp2_with fail
  refine (awake06 _ hR).mono ?_; rintro e w1 ⟨rfl, hb1⟩
  go_wp2
  go_ret
  exact ⟨rfl, (by repeat (with_reducible first | exact Below.refl _ _ | assumption | (refine ext_next (by assumption) ?_) | apply ext_alloc | apply ext_past | apply ext_drew | apply ext_drewN))⟩

set_option maxRecDepth 100000 in
set_option maxHeartbeats 2000000 in
theorem states_1 (w : World) (hR : Rws w) : Calls Tryd.prog 8 #[.int .i64 1] w fun e w' => e = .returned (.bool true) ∧ Below w.heap.size w w' := by
  have e1 : vB 1 = true := by decide
  have e2 : stB 1 = false := by decide
  have e3 : dtB 1 = false := by decide
  have e4 : owB 1 = false := by decide
  go_enter Tryd.func8, Tryd.ntmps8
  go_wp2_with fail
  refine (valid_1 _ hR).mono ?_; rintro e w' ⟨rfl, rfl⟩
  rw [e1]
  go_wp2_with fail
  refine (rload_1 _).mono ?_; rintro e w' ⟨rfl, rfl⟩
  go_wp2_with fail
  refine (load_1 _ hR).mono ?_; rintro e w' ⟨rfl, rfl⟩
  rw [e1]
  go_wp2_with fail
  refine (rload_1 _).mono ?_; rintro e w' ⟨rfl, rfl⟩
  go_wp2_with fail
  refine (store_1 _ hR).mono ?_; rintro e w' ⟨rfl, rfl⟩
  rw [e2]
  go_wp2_with fail
  refine (rstore_1 _).mono ?_; rintro e w' ⟨rfl, rfl⟩
  go_wp2_with fail
  refine (dirty_1 _ hR).mono ?_; rintro e w' ⟨rfl, rfl⟩
  rw [e3]
  go_wp2_with fail
  refine (rdirty_1 _).mono ?_; rintro e w' ⟨rfl, rfl⟩
  go_wp2_with fail
  refine (owner_1 _ hR).mono ?_; rintro e w' ⟨rfl, rfl⟩
  rw [e4]
  go_wp2_with fail
  refine (rowner_1 _).mono ?_; rintro e w' ⟨rfl, rfl⟩
  go_wp2_with fail
  refine (name_1 _ hR).mono ?_; rintro e w' ⟨rfl, rfl⟩
  go_wp2_with fail
  refine (letter_1 _).mono ?_; rintro e w' ⟨rfl, rfl⟩
  go_wp2_with fail
  refine (wrote_1 _ hR).mono ?_; rintro e w' ⟨rfl, rfl⟩
  go_wp2_with fail
  refine (letter_1 _).mono ?_; rintro e w' ⟨rfl, rfl⟩
  go_wp2_with fail
  refine (rstore_1 _).mono ?_; rintro e w' ⟨rfl, rfl⟩
  go_wp2_with fail
  refine (awake06 _ hR).mono ?_; rintro e w1 ⟨rfl, hb1⟩
  go_wp2
  go_ret
  exact ⟨rfl, (by repeat (with_reducible first | exact Below.refl _ _ | assumption | (refine ext_next (by assumption) ?_) | apply ext_alloc | apply ext_past | apply ext_drew | apply ext_drewN))⟩

set_option maxRecDepth 100000 in
set_option maxHeartbeats 2000000 in
theorem states_2 (w : World) (hR : Rws w) : Calls Tryd.prog 8 #[.int .i64 2] w fun e w' => e = .returned (.bool true) ∧ Below w.heap.size w w' := by
  have e1 : vB 2 = true := by decide
  have e2 : stB 2 = true := by decide
  have e3 : dtB 2 = false := by decide
  have e4 : owB 2 = true := by decide
  go_enter Tryd.func8, Tryd.ntmps8
  go_wp2_with fail
  refine (valid_2 _ hR).mono ?_; rintro e w' ⟨rfl, rfl⟩
  rw [e1]
  go_wp2_with fail
  refine (rload_2 _).mono ?_; rintro e w' ⟨rfl, rfl⟩
  go_wp2_with fail
  refine (load_2 _ hR).mono ?_; rintro e w' ⟨rfl, rfl⟩
  rw [e1]
  go_wp2_with fail
  refine (rload_2 _).mono ?_; rintro e w' ⟨rfl, rfl⟩
  go_wp2_with fail
  refine (store_2 _ hR).mono ?_; rintro e w' ⟨rfl, rfl⟩
  rw [e2]
  go_wp2_with fail
  refine (rstore_2 _).mono ?_; rintro e w' ⟨rfl, rfl⟩
  go_wp2_with fail
  refine (dirty_2 _ hR).mono ?_; rintro e w' ⟨rfl, rfl⟩
  rw [e3]
  go_wp2_with fail
  refine (rdirty_2 _).mono ?_; rintro e w' ⟨rfl, rfl⟩
  go_wp2_with fail
  refine (owner_2 _ hR).mono ?_; rintro e w' ⟨rfl, rfl⟩
  rw [e4]
  go_wp2_with fail
  refine (rowner_2 _).mono ?_; rintro e w' ⟨rfl, rfl⟩
  go_wp2_with fail
  refine (name_2 _ hR).mono ?_; rintro e w' ⟨rfl, rfl⟩
  go_wp2_with fail
  refine (letter_2 _).mono ?_; rintro e w' ⟨rfl, rfl⟩
  go_wp2_with fail
  refine (wrote_2 _ hR).mono ?_; rintro e w' ⟨rfl, rfl⟩
  go_wp2_with fail
  refine (letter_2 _).mono ?_; rintro e w' ⟨rfl, rfl⟩
  go_wp2_with fail
  refine (rstore_2 _).mono ?_; rintro e w' ⟨rfl, rfl⟩
  go_wp2_with fail
  refine (awake06 _ hR).mono ?_; rintro e w1 ⟨rfl, hb1⟩
  go_wp2
  go_ret
  exact ⟨rfl, (by repeat (with_reducible first | exact Below.refl _ _ | assumption | (refine ext_next (by assumption) ?_) | apply ext_alloc | apply ext_past | apply ext_drew | apply ext_drewN))⟩

set_option maxRecDepth 100000 in
set_option maxHeartbeats 2000000 in
theorem states_3 (w : World) (hR : Rws w) : Calls Tryd.prog 8 #[.int .i64 3] w fun e w' => e = .returned (.bool true) ∧ Below w.heap.size w w' := by
  have e1 : vB 3 = true := by decide
  have e2 : stB 3 = false := by decide
  have e3 : dtB 3 = true := by decide
  have e4 : owB 3 = true := by decide
  go_enter Tryd.func8, Tryd.ntmps8
  go_wp2_with fail
  refine (valid_3 _ hR).mono ?_; rintro e w' ⟨rfl, rfl⟩
  rw [e1]
  go_wp2_with fail
  refine (rload_3 _).mono ?_; rintro e w' ⟨rfl, rfl⟩
  go_wp2_with fail
  refine (load_3 _ hR).mono ?_; rintro e w' ⟨rfl, rfl⟩
  rw [e1]
  go_wp2_with fail
  refine (rload_3 _).mono ?_; rintro e w' ⟨rfl, rfl⟩
  go_wp2_with fail
  refine (store_3 _ hR).mono ?_; rintro e w' ⟨rfl, rfl⟩
  rw [e2]
  go_wp2_with fail
  refine (rstore_3 _).mono ?_; rintro e w' ⟨rfl, rfl⟩
  go_wp2_with fail
  refine (dirty_3 _ hR).mono ?_; rintro e w' ⟨rfl, rfl⟩
  rw [e3]
  go_wp2_with fail
  refine (rdirty_3 _).mono ?_; rintro e w' ⟨rfl, rfl⟩
  go_wp2_with fail
  refine (owner_3 _ hR).mono ?_; rintro e w' ⟨rfl, rfl⟩
  rw [e4]
  go_wp2_with fail
  refine (rowner_3 _).mono ?_; rintro e w' ⟨rfl, rfl⟩
  go_wp2_with fail
  refine (name_3 _ hR).mono ?_; rintro e w' ⟨rfl, rfl⟩
  go_wp2_with fail
  refine (letter_3 _).mono ?_; rintro e w' ⟨rfl, rfl⟩
  go_wp2_with fail
  refine (wrote_3 _ hR).mono ?_; rintro e w' ⟨rfl, rfl⟩
  go_wp2_with fail
  refine (letter_3 _).mono ?_; rintro e w' ⟨rfl, rfl⟩
  go_wp2_with fail
  refine (rstore_3 _).mono ?_; rintro e w' ⟨rfl, rfl⟩
  go_wp2_with fail
  refine (awake06 _ hR).mono ?_; rintro e w1 ⟨rfl, hb1⟩
  go_wp2
  go_ret
  exact ⟨rfl, (by repeat (with_reducible first | exact Below.refl _ _ | assumption | (refine ext_next (by assumption) ?_) | apply ext_alloc | apply ext_past | apply ext_drew | apply ext_drewN))⟩

set_option maxRecDepth 100000 in
set_option maxHeartbeats 2000000 in
theorem states_4 (w : World) (hR : Rws w) : Calls Tryd.prog 8 #[.int .i64 4] w fun e w' => e = .returned (.bool true) ∧ Below w.heap.size w w' := by
  have e1 : vB 4 = true := by decide
  have e2 : stB 4 = true := by decide
  have e3 : dtB 4 = true := by decide
  have e4 : owB 4 = true := by decide
  go_enter Tryd.func8, Tryd.ntmps8
  go_wp2_with fail
  refine (valid_4 _ hR).mono ?_; rintro e w' ⟨rfl, rfl⟩
  rw [e1]
  go_wp2_with fail
  refine (rload_4 _).mono ?_; rintro e w' ⟨rfl, rfl⟩
  go_wp2_with fail
  refine (load_4 _ hR).mono ?_; rintro e w' ⟨rfl, rfl⟩
  rw [e1]
  go_wp2_with fail
  refine (rload_4 _).mono ?_; rintro e w' ⟨rfl, rfl⟩
  go_wp2_with fail
  refine (store_4 _ hR).mono ?_; rintro e w' ⟨rfl, rfl⟩
  rw [e2]
  go_wp2_with fail
  refine (rstore_4 _).mono ?_; rintro e w' ⟨rfl, rfl⟩
  go_wp2_with fail
  refine (dirty_4 _ hR).mono ?_; rintro e w' ⟨rfl, rfl⟩
  rw [e3]
  go_wp2_with fail
  refine (rdirty_4 _).mono ?_; rintro e w' ⟨rfl, rfl⟩
  go_wp2_with fail
  refine (owner_4 _ hR).mono ?_; rintro e w' ⟨rfl, rfl⟩
  rw [e4]
  go_wp2_with fail
  refine (rowner_4 _).mono ?_; rintro e w' ⟨rfl, rfl⟩
  go_wp2_with fail
  refine (name_4 _ hR).mono ?_; rintro e w' ⟨rfl, rfl⟩
  go_wp2_with fail
  refine (letter_4 _).mono ?_; rintro e w' ⟨rfl, rfl⟩
  go_wp2_with fail
  refine (wrote_4 _ hR).mono ?_; rintro e w' ⟨rfl, rfl⟩
  go_wp2_with fail
  refine (letter_4 _).mono ?_; rintro e w' ⟨rfl, rfl⟩
  go_wp2_with fail
  refine (rstore_4 _).mono ?_; rintro e w' ⟨rfl, rfl⟩
  go_wp2_with fail
  refine (awake06 _ hR).mono ?_; rintro e w1 ⟨rfl, hb1⟩
  go_wp2
  go_ret
  exact ⟨rfl, (by repeat (with_reducible first | exact Below.refl _ _ | assumption | (refine ext_next (by assumption) ?_) | apply ext_alloc | apply ext_past | apply ext_drew | apply ext_drewN))⟩

theorem states_walk (s : Int) (w : World) (hR : Rws w) : Calls Tryd.prog 8 #[.int .i64 s] w fun e w' => e = .returned (.bool true) ∧ Below w.heap.size w w' := by
  rcases five s with h | rfl | rfl | rfl | rfl | rfl | h
  · exact states_no s w hR (.inl h)
  · exact states_0 w hR
  · exact states_1 w hR
  · exact states_2 w hR
  · exact states_3 w hR
  · exact states_4 w hR
  · exact states_no s w hR (.inr h)

end Go.Proofs.YtkfnjpmigifomaaDoor
