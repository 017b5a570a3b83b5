/- What this text holds: the walks of the laws MoesiProbes and MoesiTwice. Condition: the table of states holds what its initialiser lays. -/
import Derived.Test.YtnbdaffbmpbfjaaDoorLaw06
namespace Go.Proofs.YtnbdaffbmpbfjaaDoor
open Go.RowKit

set_option maxRecDepth 100000 in
set_option maxHeartbeats 1000000 in
theorem probes_no (s to : Int) (w : World) (hR : Rws w) (h : s < 0 ∨ 4 < s) : Calls Tryd.prog 7 #[.int .i64 s, .int .i64 to] w fun e w' => e = .returned (.bool true) ∧ Below w.heap.size w w' := by
  go_enter Tryd.func7, Tryd.ntmps7
  go_wp2_with fail
  refine (probe_no s to _ h).mono ?_; rintro e w' ⟨rfl, rfl⟩
  go_wp2_with fail
  refine (letter_no s _ h).mono ?_; rintro e w' ⟨rfl, rfl⟩
  go_wp2_with fail
  refine (awake06 _ hR).mono ?_; rintro e w1 ⟨rfl, hb1⟩
  go_wp2
  go_ret
  exact ⟨rfl, (by repeat (with_reducible first | exact Below.refl _ _ | assumption | (refine ext_next (by assumption) ?_) | apply ext_alloc | apply ext_past | apply ext_drew | apply ext_drewN))⟩

set_option maxRecDepth 100000 in
set_option maxHeartbeats 1000000 in
theorem probes_0_x (to : Int) (w : World) (hR : Rws w) (h2 : (to == 0) = false) (h3 : (to == 1) = false) : Calls Tryd.prog 7 #[.int .i64 0, .int .i64 to] w fun e w' => e = .returned (.bool true) ∧ Below w.heap.size w w' := by
  have h2' : (to != 0) = true := by simp [bne, h2]
  have h3' : (to != 1) = true := by simp [bne, h3]
  go_enter Tryd.func7, Tryd.ntmps7
  go_wp2_with fail
  refine (probe_to 0 to _ (by decide) (by decide) h2 h3).mono ?_; rintro e w' ⟨rfl, rfl⟩
  go_wp2_with fail
  refine (letter_0 _).mono ?_; rintro e w' ⟨rfl, rfl⟩
  go_wp2_with fail
  refine (awake06 _ hR).mono ?_; rintro e w1 ⟨rfl, hb1⟩
  go_wp2
  go_ret
  exact ⟨rfl, (by repeat (with_reducible first | exact Below.refl _ _ | assumption | (refine ext_next (by assumption) ?_) | apply ext_alloc | apply ext_past | apply ext_drew | apply ext_drewN))⟩

set_option maxRecDepth 100000 in
set_option maxHeartbeats 1000000 in
theorem probes_0_0  (w : World) (hR : Rws w) : Calls Tryd.prog 7 #[.int .i64 0, .int .i64 0] w fun e w' => e = .returned (.bool true) ∧ Below w.heap.size w w' := by
  go_enter Tryd.func7, Tryd.ntmps7
  go_wp2_with fail
  refine (probe_0_0 _ hR).mono ?_; rintro e w' ⟨rfl, rfl⟩
  go_wp2_with fail
  refine (letter_0 _).mono ?_; rintro e w' ⟨rfl, rfl⟩
  go_wp2_with fail
  refine (rprobed_0 false _).mono ?_; rintro e w' ⟨rfl, rfl⟩
  go_wp2_with fail
  refine (rowner_0 _).mono ?_; rintro e w' ⟨rfl, rfl⟩
  go_wp2_with fail
  refine (rdirty_0 _).mono ?_; rintro e w' ⟨rfl, rfl⟩
  go_wp2_with fail
  refine (awake06 _ hR).mono ?_; rintro e w1 ⟨rfl, hb1⟩
  go_wp2
  go_ret
  exact ⟨rfl, (by repeat (with_reducible first | exact Below.refl _ _ | assumption | (refine ext_next (by assumption) ?_) | apply ext_alloc | apply ext_past | apply ext_drew | apply ext_drewN))⟩

set_option maxRecDepth 100000 in
set_option maxHeartbeats 1000000 in
theorem probes_0_1  (w : World) (hR : Rws w) : Calls Tryd.prog 7 #[.int .i64 0, .int .i64 1] w fun e w' => e = .returned (.bool true) ∧ Below w.heap.size w w' := by
  go_enter Tryd.func7, Tryd.ntmps7
  go_wp2_with fail
  refine (probe_0_1 _ hR).mono ?_; rintro e w' ⟨rfl, rfl⟩
  go_wp2_with fail
  refine (letter_0 _).mono ?_; rintro e w' ⟨rfl, rfl⟩
  go_wp2_with fail
  refine (rprobed_0 true _).mono ?_; rintro e w' ⟨rfl, rfl⟩
  go_wp2_with fail
  refine (rowner_0 _).mono ?_; rintro e w' ⟨rfl, rfl⟩
  go_wp2_with fail
  refine (rdirty_0 _).mono ?_; rintro e w' ⟨rfl, rfl⟩
  go_wp2_with fail
  refine (awake06 _ hR).mono ?_; rintro e w1 ⟨rfl, hb1⟩
  go_wp2
  go_ret
  exact ⟨rfl, (by repeat (with_reducible first | exact Below.refl _ _ | assumption | (refine ext_next (by assumption) ?_) | apply ext_alloc | apply ext_past | apply ext_drew | apply ext_drewN))⟩

set_option maxRecDepth 100000 in
set_option maxHeartbeats 1000000 in
theorem probes_1_x (to : Int) (w : World) (hR : Rws w) (h2 : (to == 0) = false) (h3 : (to == 1) = false) : Calls Tryd.prog 7 #[.int .i64 1, .int .i64 to] w fun e w' => e = .returned (.bool true) ∧ Below w.heap.size w w' := by
  have h2' : (to != 0) = true := by simp [bne, h2]
  have h3' : (to != 1) = true := by simp [bne, h3]
  go_enter Tryd.func7, Tryd.ntmps7
  go_wp2_with fail
  refine (probe_to 1 to _ (by decide) (by decide) h2 h3).mono ?_; rintro e w' ⟨rfl, rfl⟩
  go_wp2_with fail
  refine (letter_1 _).mono ?_; rintro e w' ⟨rfl, rfl⟩
  go_wp2_with fail
  refine (awake06 _ hR).mono ?_; rintro e w1 ⟨rfl, hb1⟩
  go_wp2
  go_ret
  exact ⟨rfl, (by repeat (with_reducible first | exact Below.refl _ _ | assumption | (refine ext_next (by assumption) ?_) | apply ext_alloc | apply ext_past | apply ext_drew | apply ext_drewN))⟩

set_option maxRecDepth 100000 in
set_option maxHeartbeats 1000000 in
theorem probes_1_0  (w : World) (hR : Rws w) : Calls Tryd.prog 7 #[.int .i64 1, .int .i64 0] w fun e w' => e = .returned (.bool true) ∧ Below w.heap.size w w' := by
  go_enter Tryd.func7, Tryd.ntmps7
  go_wp2_with fail
  refine (probe_1_0 _ hR).mono ?_; rintro e w' ⟨rfl, rfl⟩
  go_wp2_with fail
  refine (letter_1 _).mono ?_; rintro e w' ⟨rfl, rfl⟩
  go_wp2_with fail
  refine (rprobed_1 false _).mono ?_; rintro e w' ⟨rfl, rfl⟩
  go_wp2_with fail
  refine (rowner_1 _).mono ?_; rintro e w' ⟨rfl, rfl⟩
  go_wp2_with fail
  refine (rdirty_1 _).mono ?_; rintro e w' ⟨rfl, rfl⟩
  go_wp2_with fail
  refine (awake06 _ hR).mono ?_; rintro e w1 ⟨rfl, hb1⟩
  go_wp2
  go_ret
  exact ⟨rfl, (by repeat (with_reducible first | exact Below.refl _ _ | assumption | (refine ext_next (by assumption) ?_) | apply ext_alloc | apply ext_past | apply ext_drew | apply ext_drewN))⟩

set_option maxRecDepth 100000 in
set_option maxHeartbeats 1000000 in
theorem probes_1_1  (w : World) (hR : Rws w) : Calls Tryd.prog 7 #[.int .i64 1, .int .i64 1] w fun e w' => e = .returned (.bool true) ∧ Below w.heap.size w w' := by
  go_enter Tryd.func7, Tryd.ntmps7
  go_wp2_with fail
  refine (probe_1_1 _ hR).mono ?_; rintro e w' ⟨rfl, rfl⟩
  go_wp2_with fail
  refine (letter_1 _).mono ?_; rintro e w' ⟨rfl, rfl⟩
  go_wp2_with fail
  refine (rprobed_1 true _).mono ?_; rintro e w' ⟨rfl, rfl⟩
  go_wp2_with fail
  refine (rowner_1 _).mono ?_; rintro e w' ⟨rfl, rfl⟩
  go_wp2_with fail
  refine (rdirty_1 _).mono ?_; rintro e w' ⟨rfl, rfl⟩
  go_wp2_with fail
  refine (awake06 _ hR).mono ?_; rintro e w1 ⟨rfl, hb1⟩
  go_wp2
  go_ret
  exact ⟨rfl, (by repeat (with_reducible first | exact Below.refl _ _ | assumption | (refine ext_next (by assumption) ?_) | apply ext_alloc | apply ext_past | apply ext_drew | apply ext_drewN))⟩

set_option maxRecDepth 100000 in
set_option maxHeartbeats 1000000 in
theorem probes_2_x (to : Int) (w : World) (hR : Rws w) (h2 : (to == 0) = false) (h3 : (to == 1) = false) : Calls Tryd.prog 7 #[.int .i64 2, .int .i64 to] w fun e w' => e = .returned (.bool true) ∧ Below w.heap.size w w' := by
  have h2' : (to != 0) = true := by simp [bne, h2]
  have h3' : (to != 1) = true := by simp [bne, h3]
  go_enter Tryd.func7, Tryd.ntmps7
  go_wp2_with fail
  refine (probe_to 2 to _ (by decide) (by decide) h2 h3).mono ?_; rintro e w' ⟨rfl, rfl⟩
  go_wp2_with fail
  refine (letter_2 _).mono ?_; rintro e w' ⟨rfl, rfl⟩
  go_wp2_with fail
  refine (awake06 _ hR).mono ?_; rintro e w1 ⟨rfl, hb1⟩
  go_wp2
  go_ret
  exact ⟨rfl, (by repeat (with_reducible first | exact Below.refl _ _ | assumption | (refine ext_next (by assumption) ?_) | apply ext_alloc | apply ext_past | apply ext_drew | apply ext_drewN))⟩

set_option maxRecDepth 100000 in
set_option maxHeartbeats 1000000 in
theorem probes_2_0  (w : World) (hR : Rws w) : Calls Tryd.prog 7 #[.int .i64 2, .int .i64 0] w fun e w' => e = .returned (.bool true) ∧ Below w.heap.size w w' := by
  go_enter Tryd.func7, Tryd.ntmps7
  go_wp2_with fail
  refine (probe_2_0 _ hR).mono ?_; rintro e w' ⟨rfl, rfl⟩
  go_wp2_with fail
  refine (letter_2 _).mono ?_; rintro e w' ⟨rfl, rfl⟩
  go_wp2_with fail
  refine (rprobed_2 false _).mono ?_; rintro e w' ⟨rfl, rfl⟩
  go_wp2_with fail
  refine (rowner_2 _).mono ?_; rintro e w' ⟨rfl, rfl⟩
  go_wp2_with fail
  refine (rdirty_2 _).mono ?_; rintro e w' ⟨rfl, rfl⟩
  go_wp2_with fail
  refine (awake06 _ hR).mono ?_; rintro e w1 ⟨rfl, hb1⟩
  go_wp2
  go_ret
  exact ⟨rfl, (by repeat (with_reducible first | exact Below.refl _ _ | assumption | (refine ext_next (by assumption) ?_) | apply ext_alloc | apply ext_past | apply ext_drew | apply ext_drewN))⟩

set_option maxRecDepth 100000 in
set_option maxHeartbeats 1000000 in
theorem probes_2_1  (w : World) (hR : Rws w) : Calls Tryd.prog 7 #[.int .i64 2, .int .i64 1] w fun e w' => e = .returned (.bool true) ∧ Below w.heap.size w w' := by
  go_enter Tryd.func7, Tryd.ntmps7
  go_wp2_with fail
  refine (probe_2_1 _ hR).mono ?_; rintro e w' ⟨rfl, rfl⟩
  go_wp2_with fail
  refine (letter_2 _).mono ?_; rintro e w' ⟨rfl, rfl⟩
  go_wp2_with fail
  refine (rprobed_2 true _).mono ?_; rintro e w' ⟨rfl, rfl⟩
  go_wp2_with fail
  refine (rowner_2 _).mono ?_; rintro e w' ⟨rfl, rfl⟩
  go_wp2_with fail
  refine (rdirty_2 _).mono ?_; rintro e w' ⟨rfl, rfl⟩
  go_wp2_with fail
  refine (awake06 _ hR).mono ?_; rintro e w1 ⟨rfl, hb1⟩
  go_wp2
  go_ret
  exact ⟨rfl, (by repeat (with_reducible first | exact Below.refl _ _ | assumption | (refine ext_next (by assumption) ?_) | apply ext_alloc | apply ext_past | apply ext_drew | apply ext_drewN))⟩

set_option maxRecDepth 100000 in
set_option maxHeartbeats 1000000 in
theorem probes_3_x (to : Int) (w : World) (hR : Rws w) (h2 : (to == 0) = false) (h3 : (to == 1) = false) : Calls Tryd.prog 7 #[.int .i64 3, .int .i64 to] w fun e w' => e = .returned (.bool true) ∧ Below w.heap.size w w' := by
  have h2' : (to != 0) = true := by simp [bne, h2]
  have h3' : (to != 1) = true := by simp [bne, h3]
  go_enter Tryd.func7, Tryd.ntmps7
  go_wp2_with fail
  refine (probe_to 3 to _ (by decide) (by decide) h2 h3).mono ?_; rintro e w' ⟨rfl, rfl⟩
  go_wp2_with fail
  refine (letter_3 _).mono ?_; rintro e w' ⟨rfl, rfl⟩
  go_wp2_with fail
  refine (awake06 _ hR).mono ?_; rintro e w1 ⟨rfl, hb1⟩
  go_wp2
  go_ret
  exact ⟨rfl, (by repeat (with_reducible first | exact Below.refl _ _ | assumption | (refine ext_next (by assumption) ?_) | apply ext_alloc | apply ext_past | apply ext_drew | apply ext_drewN))⟩

set_option maxRecDepth 100000 in
set_option maxHeartbeats 1000000 in
theorem probes_3_0  (w : World) (hR : Rws w) : Calls Tryd.prog 7 #[.int .i64 3, .int .i64 0] w fun e w' => e = .returned (.bool true) ∧ Below w.heap.size w w' := by
  go_enter Tryd.func7, Tryd.ntmps7
  go_wp2_with fail
  refine (probe_3_0 _ hR).mono ?_; rintro e w' ⟨rfl, rfl⟩
  go_wp2_with fail
  refine (letter_3 _).mono ?_; rintro e w' ⟨rfl, rfl⟩
  go_wp2_with fail
  refine (rprobed_3 false _).mono ?_; rintro e w' ⟨rfl, rfl⟩
  go_wp2_with fail
  refine (rowner_3 _).mono ?_; rintro e w' ⟨rfl, rfl⟩
  go_wp2_with fail
  refine (rdirty_3 _).mono ?_; rintro e w' ⟨rfl, rfl⟩
  go_wp2_with fail
  refine (awake06 _ hR).mono ?_; rintro e w1 ⟨rfl, hb1⟩
  go_wp2
  go_ret
  exact ⟨rfl, (by repeat (with_reducible first | exact Below.refl _ _ | assumption | (refine ext_next (by assumption) ?_) | apply ext_alloc | apply ext_past | apply ext_drew | apply ext_drewN))⟩

set_option maxRecDepth 100000 in
set_option maxHeartbeats 1000000 in
theorem probes_3_1  (w : World) (hR : Rws w) : Calls Tryd.prog 7 #[.int .i64 3, .int .i64 1] w fun e w' => e = .returned (.bool true) ∧ Below w.heap.size w w' := by
  go_enter Tryd.func7, Tryd.ntmps7
  go_wp2_with fail
  refine (probe_3_1 _ hR).mono ?_; rintro e w' ⟨rfl, rfl⟩
  go_wp2_with fail
  refine (letter_3 _).mono ?_; rintro e w' ⟨rfl, rfl⟩
  go_wp2_with fail
  refine (rprobed_3 true _).mono ?_; rintro e w' ⟨rfl, rfl⟩
  go_wp2_with fail
  refine (rowner_3 _).mono ?_; rintro e w' ⟨rfl, rfl⟩
  go_wp2_with fail
  refine (rdirty_3 _).mono ?_; rintro e w' ⟨rfl, rfl⟩
  go_wp2_with fail
  refine (awake06 _ hR).mono ?_; rintro e w1 ⟨rfl, hb1⟩
  go_wp2
  go_ret
  exact ⟨rfl, (by repeat (with_reducible first | exact Below.refl _ _ | assumption | (refine ext_next (by assumption) ?_) | apply ext_alloc | apply ext_past | apply ext_drew | apply ext_drewN))⟩

set_option maxRecDepth 100000 in
set_option maxHeartbeats 1000000 in
theorem probes_4_x (to : Int) (w : World) (hR : Rws w) (h2 : (to == 0) = false) (h3 : (to == 1) = false) : Calls Tryd.prog 7 #[.int .i64 4, .int .i64 to] w fun e w' => e = .returned (.bool true) ∧ Below w.heap.size w w' := by
  have h2' : (to != 0) = true := by simp [bne, h2]
  have h3' : (to != 1) = true := by simp [bne, h3]
  go_enter Tryd.func7, Tryd.ntmps7
  go_wp2_with fail
  refine (probe_to 4 to _ (by decide) (by decide) h2 h3).mono ?_; rintro e w' ⟨rfl, rfl⟩
  go_wp2_with fail
  refine (letter_4 _).mono ?_; rintro e w' ⟨rfl, rfl⟩
  go_wp2_with fail
  refine (awake06 _ hR).mono ?_; rintro e w1 ⟨rfl, hb1⟩
  go_wp2
  go_ret
  exact ⟨rfl, (by repeat (with_reducible first | exact Below.refl _ _ | assumption | (refine ext_next (by assumption) ?_) | apply ext_alloc | apply ext_past | apply ext_drew | apply ext_drewN))⟩

set_option maxRecDepth 100000 in
set_option maxHeartbeats 1000000 in
theorem probes_4_0  (w : World) (hR : Rws w) : Calls Tryd.prog 7 #[.int .i64 4, .int .i64 0] w fun e w' => e = .returned (.bool true) ∧ Below w.heap.size w w' := by
  go_enter Tryd.func7, Tryd.ntmps7
  go_wp2_with fail
  refine (probe_4_0 _ hR).mono ?_; rintro e w' ⟨rfl, rfl⟩
  go_wp2_with fail
  refine (letter_4 _).mono ?_; rintro e w' ⟨rfl, rfl⟩
  go_wp2_with fail
  refine (rprobed_4 false _).mono ?_; rintro e w' ⟨rfl, rfl⟩
  go_wp2_with fail
  refine (rowner_4 _).mono ?_; rintro e w' ⟨rfl, rfl⟩
  go_wp2_with fail
  refine (rdirty_4 _).mono ?_; rintro e w' ⟨rfl, rfl⟩
  go_wp2_with fail
  refine (awake06 _ hR).mono ?_; rintro e w1 ⟨rfl, hb1⟩
  go_wp2
  go_ret
  exact ⟨rfl, (by repeat (with_reducible first | exact Below.refl _ _ | assumption | (refine ext_next (by assumption) ?_) | apply ext_alloc | apply ext_past | apply ext_drew | apply ext_drewN))⟩

set_option maxRecDepth 100000 in
set_option maxHeartbeats 1000000 in
theorem probes_4_1  (w : World) (hR : Rws w) : Calls Tryd.prog 7 #[.int .i64 4, .int .i64 1] w fun e w' => e = .returned (.bool true) ∧ Below w.heap.size w w' := by
  go_enter Tryd.func7, Tryd.ntmps7
  go_wp2_with fail
  refine (probe_4_1 _ hR).mono ?_; rintro e w' ⟨rfl, rfl⟩
  go_wp2_with fail
  refine (letter_4 _).mono ?_; rintro e w' ⟨rfl, rfl⟩
  go_wp2_with fail
  refine (rprobed_4 true _).mono ?_; rintro e w' ⟨rfl, rfl⟩
  go_wp2_with fail
  refine (rowner_4 _).mono ?_; rintro e w' ⟨rfl, rfl⟩
  go_wp2_with fail
  refine (rdirty_4 _).mono ?_; rintro e w' ⟨rfl, rfl⟩
  go_wp2_with fail
  refine (awake06 _ hR).mono ?_; rintro e w1 ⟨rfl, hb1⟩
  go_wp2
  go_ret
  exact ⟨rfl, (by repeat (with_reducible first | exact Below.refl _ _ | assumption | (refine ext_next (by assumption) ?_) | apply ext_alloc | apply ext_past | apply ext_drew | apply ext_drewN))⟩

theorem probes_walk (s to : Int) (w : World) (hR : Rws w) : Calls Tryd.prog 7 #[.int .i64 s, .int .i64 to] w fun e w' => e = .returned (.bool true) ∧ Below w.heap.size w w' := by
  rcases five s with h | rfl | rfl | rfl | rfl | rfl | h
  · exact probes_no s to w hR (.inl h)
  · by_cases h0 : to = 0
    · subst h0; exact probes_0_0 w hR
    · by_cases h1 : to = 1
      · subst h1; exact probes_0_1 w hR
      · exact probes_0_x to w hR (by simpa using h0) (by simpa using h1)
  · by_cases h0 : to = 0
    · subst h0; exact probes_1_0 w hR
    · by_cases h1 : to = 1
      · subst h1; exact probes_1_1 w hR
      · exact probes_1_x to w hR (by simpa using h0) (by simpa using h1)
  · by_cases h0 : to = 0
    · subst h0; exact probes_2_0 w hR
    · by_cases h1 : to = 1
      · subst h1; exact probes_2_1 w hR
      · exact probes_2_x to w hR (by simpa using h0) (by simpa using h1)
  · by_cases h0 : to = 0
    · subst h0; exact probes_3_0 w hR
    · by_cases h1 : to = 1
      · subst h1; exact probes_3_1 w hR
      · exact probes_3_x to w hR (by simpa using h0) (by simpa using h1)
  · by_cases h0 : to = 0
    · subst h0; exact probes_4_0 w hR
    · by_cases h1 : to = 1
      · subst h1; exact probes_4_1 w hR
      · exact probes_4_x to w hR (by simpa using h0) (by simpa using h1)
  · exact probes_no s to w hR (.inr h)

set_option maxRecDepth 100000 in
set_option maxHeartbeats 1000000 in
theorem twice_no (s : Int) (w : World) (hR : Rws w) (h : s < 0 ∨ 4 < s) : Calls Tryd.prog 11 #[.int .i64 s] w fun e w' => e = .returned (.bool true) ∧ Below w.heap.size w w' := by
  go_enter Tryd.func11, Tryd.ntmps11
  have e1 := vB_no h
  have e2 := dtB_no h
  have e3 := owB_no h
  go_wp2_with fail
  refine (probe_no s 1 _ h).mono ?_; rintro e w' ⟨rfl, rfl⟩
  go_wp2_with fail
  refine (valid_any s _ hR).mono ?_; rintro e w' ⟨rfl, rfl⟩
  go_wp2_with fail
  refine (dirty_any s _ hR).mono ?_; rintro e w' ⟨rfl, rfl⟩
  go_wp2_with fail
  refine (owner_any s _ hR).mono ?_; rintro e w' ⟨rfl, rfl⟩
  go_wp2_with fail
  refine (awake06 _ hR).mono ?_; rintro e w1 ⟨rfl, hb1⟩
  go_wp2
  go_ret
  exact ⟨rfl, (by repeat (with_reducible first | exact Below.refl _ _ | assumption | (refine ext_next (by assumption) ?_) | apply ext_alloc | apply ext_past | apply ext_drew | apply ext_drewN))⟩

set_option maxRecDepth 100000 in
set_option maxHeartbeats 1000000 in
theorem twice_0  (w : World) (hR : Rws w) : Calls Tryd.prog 11 #[.int .i64 0] w fun e w' => e = .returned (.bool true) ∧ Below w.heap.size w w' := by
  have e1 : vB 0 = false := by decide
  have e2 : stB 0 = false := by decide
  have e3 : owB 0 = false := by decide
  go_enter Tryd.func11, Tryd.ntmps11
  go_wp2_with fail
  refine (probe_0_1 _ hR).mono ?_; rintro e w' ⟨rfl, rfl⟩
  go_wp2_with fail
  refine (probe_0_1 _ hR).mono ?_; rintro e w' ⟨rfl, rfl⟩
  go_wp2_with fail
  refine (probe_0_0 _ hR).mono ?_; rintro e w' ⟨rfl, rfl⟩
  go_wp2_with fail
  refine (probe_0_0 _ hR).mono ?_; rintro e w' ⟨rfl, rfl⟩
  go_wp2_with fail
  refine (store_0 _ hR).mono ?_; rintro e w' ⟨rfl, rfl⟩
  go_wp2_with fail
  refine (awake06 _ hR).mono ?_; rintro e w1 ⟨rfl, hb1⟩
  go_wp2
  go_ret
  exact ⟨rfl, (by repeat (with_reducible first | exact Below.refl _ _ | assumption | (refine ext_next (by assumption) ?_) | apply ext_alloc | apply ext_past | apply ext_drew | apply ext_drewN))⟩

set_option maxRecDepth 100000 in
set_option maxHeartbeats 1000000 in
theorem twice_1  (w : World) (hR : Rws w) : Calls Tryd.prog 11 #[.int .i64 1] w fun e w' => e = .returned (.bool true) ∧ Below w.heap.size w w' := by
  have e1 : vB 1 = true := by decide
  have e2 : stB 1 = false := by decide
  have e3 : owB 1 = false := by decide
  go_enter Tryd.func11, Tryd.ntmps11
  go_wp2_with fail
  refine (probe_1_1 _ hR).mono ?_; rintro e w' ⟨rfl, rfl⟩
  go_wp2_with fail
  refine (probe_1_1 _ hR).mono ?_; rintro e w' ⟨rfl, rfl⟩
  go_wp2_with fail
  refine (probe_1_0 _ hR).mono ?_; rintro e w' ⟨rfl, rfl⟩
  go_wp2_with fail
  refine (probe_1_0 _ hR).mono ?_; rintro e w' ⟨rfl, rfl⟩
  go_wp2_with fail
  refine (store_1 _ hR).mono ?_; rintro e w' ⟨rfl, rfl⟩
  go_wp2_with fail
  refine (awake06 _ hR).mono ?_; rintro e w1 ⟨rfl, hb1⟩
  go_wp2
  go_ret
  exact ⟨rfl, (by repeat (with_reducible first | exact Below.refl _ _ | assumption | (refine ext_next (by assumption) ?_) | apply ext_alloc | apply ext_past | apply ext_drew | apply ext_drewN))⟩

set_option maxRecDepth 100000 in
set_option maxHeartbeats 1000000 in
theorem twice_2  (w : World) (hR : Rws w) : Calls Tryd.prog 11 #[.int .i64 2] w fun e w' => e = .returned (.bool true) ∧ Below w.heap.size w w' := by
  have e1 : vB 2 = true := by decide
  have e2 : stB 2 = true := by decide
  have e3 : owB 2 = true := by decide
  go_enter Tryd.func11, Tryd.ntmps11
  go_wp2_with fail
  refine (probe_2_1 _ hR).mono ?_; rintro e w' ⟨rfl, rfl⟩
  go_wp2_with fail
  refine (probe_1_1 _ hR).mono ?_; rintro e w' ⟨rfl, rfl⟩
  go_wp2_with fail
  refine (probe_1_0 _ hR).mono ?_; rintro e w' ⟨rfl, rfl⟩
  go_wp2_with fail
  refine (probe_2_0 _ hR).mono ?_; rintro e w' ⟨rfl, rfl⟩
  go_wp2_with fail
  refine (load_2 _ hR).mono ?_; rintro e w' ⟨rfl, rfl⟩
  go_wp2_with fail
  refine (store_2 _ hR).mono ?_; rintro e w' ⟨rfl, rfl⟩
  go_wp2_with fail
  refine (owner_2 _ hR).mono ?_; rintro e w' ⟨rfl, rfl⟩
  go_wp2_with fail
  refine (awake06 _ hR).mono ?_; rintro e w1 ⟨rfl, hb1⟩
  go_wp2
  go_ret
  exact ⟨rfl, (by repeat (with_reducible first | exact Below.refl _ _ | assumption | (refine ext_next (by assumption) ?_) | apply ext_alloc | apply ext_past | apply ext_drew | apply ext_drewN))⟩

set_option maxRecDepth 100000 in
set_option maxHeartbeats 1000000 in
theorem twice_3  (w : World) (hR : Rws w) : Calls Tryd.prog 11 #[.int .i64 3] w fun e w' => e = .returned (.bool true) ∧ Below w.heap.size w w' := by
  have e1 : vB 3 = true := by decide
  have e2 : stB 3 = false := by decide
  have e3 : owB 3 = true := by decide
  go_enter Tryd.func11, Tryd.ntmps11
  go_wp2_with fail
  refine (probe_3_1 _ hR).mono ?_; rintro e w' ⟨rfl, rfl⟩
  go_wp2_with fail
  refine (probe_3_1 _ hR).mono ?_; rintro e w' ⟨rfl, rfl⟩
  go_wp2_with fail
  refine (probe_3_0 _ hR).mono ?_; rintro e w' ⟨rfl, rfl⟩
  go_wp2_with fail
  refine (probe_3_0 _ hR).mono ?_; rintro e w' ⟨rfl, rfl⟩
  go_wp2_with fail
  refine (load_3 _ hR).mono ?_; rintro e w' ⟨rfl, rfl⟩
  go_wp2_with fail
  refine (store_3 _ hR).mono ?_; rintro e w' ⟨rfl, rfl⟩
  go_wp2_with fail
  refine (awake06 _ hR).mono ?_; rintro e w1 ⟨rfl, hb1⟩
  go_wp2
  go_ret
  exact ⟨rfl, (by repeat (with_reducible first | exact Below.refl _ _ | assumption | (refine ext_next (by assumption) ?_) | apply ext_alloc | apply ext_past | apply ext_drew | apply ext_drewN))⟩

set_option maxRecDepth 100000 in
set_option maxHeartbeats 1000000 in
theorem twice_4  (w : World) (hR : Rws w) : Calls Tryd.prog 11 #[.int .i64 4] w fun e w' => e = .returned (.bool true) ∧ Below w.heap.size w w' := by
  have e1 : vB 4 = true := by decide
  have e2 : stB 4 = true := by decide
  have e3 : owB 4 = true := by decide
  go_enter Tryd.func11, Tryd.ntmps11
  go_wp2_with fail
  refine (probe_4_1 _ hR).mono ?_; rintro e w' ⟨rfl, rfl⟩
  go_wp2_with fail
  refine (probe_3_1 _ hR).mono ?_; rintro e w' ⟨rfl, rfl⟩
  go_wp2_with fail
  refine (probe_3_0 _ hR).mono ?_; rintro e w' ⟨rfl, rfl⟩
  go_wp2_with fail
  refine (probe_4_0 _ hR).mono ?_; rintro e w' ⟨rfl, rfl⟩
  go_wp2_with fail
  refine (load_4 _ hR).mono ?_; rintro e w' ⟨rfl, rfl⟩
  go_wp2_with fail
  refine (store_4 _ hR).mono ?_; rintro e w' ⟨rfl, rfl⟩
  go_wp2_with fail
  refine (owner_4 _ hR).mono ?_; rintro e w' ⟨rfl, rfl⟩
  go_wp2_with fail
  refine (awake06 _ hR).mono ?_; rintro e w1 ⟨rfl, hb1⟩
  go_wp2
  go_ret
  exact ⟨rfl, (by repeat (with_reducible first | exact Below.refl _ _ | assumption | (refine ext_next (by assumption) ?_) | apply ext_alloc | apply ext_past | apply ext_drew | apply ext_drewN))⟩

theorem twice_walk (s : Int) (w : World) (hR : Rws w) : Calls Tryd.prog 11 #[.int .i64 s] w fun e w' => e = .returned (.bool true) ∧ Below w.heap.size w w' := by
  rcases five s with h | rfl | rfl | rfl | rfl | rfl | h
  · exact twice_no s w hR (.inl h)
  · exact twice_0 w hR
  · exact twice_1 w hR
  · exact twice_2 w hR
  · exact twice_3 w hR
  · exact twice_4 w hR
  · exact twice_no s w hR (.inr h)

end Go.Proofs.YtnbdaffbmpbfjaaDoor
