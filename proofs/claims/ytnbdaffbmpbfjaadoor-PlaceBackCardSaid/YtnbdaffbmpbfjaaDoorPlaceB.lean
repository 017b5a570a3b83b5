/- What this text holds: where the functions of package place find words and lines. Condition: the table of limits holds what its initialiser lays. -/
import Derived.Test.YtnbdaffbmpbfjaaDoorPlace
namespace Go.Proofs.YtnbdaffbmpbfjaaDoor
open Go.RowKit

set_option maxHeartbeats 400000 in
theorem line_ok (c : Cfg) (x : Int) (w : World) (hL : Lims w) (hx : 0 ≤ x) (hx2 : x < lin c * 2) :
    Calls Tryd.prog 18 #[.agg #[.int .i64 c.co, .int .i64 c.gr, .int .i64 c.se, .int .i64 c.wa, .int .i64 c.de, .int .i64 c.en, .int .i64 c.ba], .int .i64 x] w fun e w' => e = .returned (.tuple #[.int .i64 (x / 2), .int .i64 (x % 2), .int .i64 0]) ∧ Below w.heap.size w w' := by
  have h0 := hL.lt
  obtain ⟨h1, h2⟩ := lin_bd c
  go_enter Tryd.func18, Tryd.ntmps18
  go_wp2_with (go_at_call 15; refine (words_any c _ (by repeat (with_reducible first | assumption | (refine Lims.ext (by assumption) ?_) | apply Lims.alloc | apply Lims.past | apply Lims.drew | apply Lims.drewN))).mono ?_; rintro x w1 ⟨rfl, hb⟩; obtain ⟨hc1, hf1⟩ := bcell hb)
  go_ret3
  exact ⟨rfl, (by repeat (with_reducible first | exact Below.refl _ _ | assumption | (refine ext_next (by assumption) ?_) | apply ext_alloc | apply ext_past | apply ext_drew | apply ext_drewN))⟩
set_option maxHeartbeats 400000 in
theorem line_no (c : Cfg) (x : Int) (w : World) (hL : Lims w) (hx : x < 0 ∨ lin c * 2 ≤ x) :
    Calls Tryd.prog 18 #[.agg #[.int .i64 c.co, .int .i64 c.gr, .int .i64 c.se, .int .i64 c.wa, .int .i64 c.de, .int .i64 c.en, .int .i64 c.ba], .int .i64 x] w fun e w' => e = .returned (.tuple #[.int .i64 0, .int .i64 0, .int .i64 10]) ∧ Below w.heap.size w w' := by
  have h0 := hL.lt
  obtain ⟨h1, h2⟩ := lin_bd c
  by_cases hn : x < 0
  · clear hx
    go_enter Tryd.func18, Tryd.ntmps18
    go_wp2_with (go_at_call 15; refine (words_any c _ (by repeat (with_reducible first | assumption | (refine Lims.ext (by assumption) ?_) | apply Lims.alloc | apply Lims.past | apply Lims.drew | apply Lims.drewN))).mono ?_; rintro x w1 ⟨rfl, hb⟩; obtain ⟨hc1, hf1⟩ := bcell hb)
    go_ret3
    exact ⟨rfl, (by repeat (with_reducible first | exact Below.refl _ _ | assumption | (refine ext_next (by assumption) ?_) | apply ext_alloc | apply ext_past | apply ext_drew | apply ext_drewN))⟩
  · have hx2 : lin c * 2 ≤ x := by omega
    clear hx
    go_enter Tryd.func18, Tryd.ntmps18
    go_wp2_with (go_at_call 15; refine (words_any c _ (by repeat (with_reducible first | assumption | (refine Lims.ext (by assumption) ?_) | apply Lims.alloc | apply Lims.past | apply Lims.drew | apply Lims.drewN))).mono ?_; rintro x w1 ⟨rfl, hb⟩; obtain ⟨hc1, hf1⟩ := bcell hb)
    go_ret3
    exact ⟨rfl, (by repeat (with_reducible first | exact Below.refl _ _ | assumption | (refine ext_next (by assumption) ?_) | apply ext_alloc | apply ext_past | apply ext_drew | apply ext_drewN))⟩

set_option maxHeartbeats 400000 in
theorem gran_ok (c : Cfg) (x : Int) (w : World) (hL : Lims w) (hx : 0 ≤ x) (hx2 : x < lin c) :
    Calls Tryd.prog 20 #[.agg #[.int .i64 c.co, .int .i64 c.gr, .int .i64 c.se, .int .i64 c.wa, .int .i64 c.de, .int .i64 c.en, .int .i64 c.ba], .int .i64 x] w fun e w' => e = .returned (.tuple #[.int .i64 (x / 2), .int .i64 0]) ∧ Below w.heap.size w w' := by
  have h0 := hL.lt
  obtain ⟨h1, h2⟩ := lin_bd c
  go_enter Tryd.func20, Tryd.ntmps20
  go_wp2_with (go_at_call 16; refine (lines_any c _ (by repeat (with_reducible first | assumption | (refine Lims.ext (by assumption) ?_) | apply Lims.alloc | apply Lims.past | apply Lims.drew | apply Lims.drewN))).mono ?_; rintro x w1 ⟨rfl, hb⟩; obtain ⟨hc1, hf1⟩ := bcell hb)
  go_ret2
  exact ⟨rfl, (by repeat (with_reducible first | exact Below.refl _ _ | assumption | (refine ext_next (by assumption) ?_) | apply ext_alloc | apply ext_past | apply ext_drew | apply ext_drewN))⟩
set_option maxHeartbeats 400000 in
theorem gran_no (c : Cfg) (x : Int) (w : World) (hL : Lims w) (hx : x < 0 ∨ lin c ≤ x) :
    Calls Tryd.prog 20 #[.agg #[.int .i64 c.co, .int .i64 c.gr, .int .i64 c.se, .int .i64 c.wa, .int .i64 c.de, .int .i64 c.en, .int .i64 c.ba], .int .i64 x] w fun e w' => e = .returned (.tuple #[.int .i64 0, .int .i64 10]) ∧ Below w.heap.size w w' := by
  have h0 := hL.lt
  obtain ⟨h1, h2⟩ := lin_bd c
  by_cases hn : x < 0
  · clear hx
    go_enter Tryd.func20, Tryd.ntmps20
    go_wp2_with (go_at_call 16; refine (lines_any c _ (by repeat (with_reducible first | assumption | (refine Lims.ext (by assumption) ?_) | apply Lims.alloc | apply Lims.past | apply Lims.drew | apply Lims.drewN))).mono ?_; rintro x w1 ⟨rfl, hb⟩; obtain ⟨hc1, hf1⟩ := bcell hb)
    go_ret2
    exact ⟨rfl, (by repeat (with_reducible first | exact Below.refl _ _ | assumption | (refine ext_next (by assumption) ?_) | apply ext_alloc | apply ext_past | apply ext_drew | apply ext_drewN))⟩
  · have hx2 : lin c ≤ x := by omega
    clear hx
    go_enter Tryd.func20, Tryd.ntmps20
    go_wp2_with (go_at_call 16; refine (lines_any c _ (by repeat (with_reducible first | assumption | (refine Lims.ext (by assumption) ?_) | apply Lims.alloc | apply Lims.past | apply Lims.drew | apply Lims.drewN))).mono ?_; rintro x w1 ⟨rfl, hb⟩; obtain ⟨hc1, hf1⟩ := bcell hb)
    go_ret2
    exact ⟨rfl, (by repeat (with_reducible first | exact Below.refl _ _ | assumption | (refine ext_next (by assumption) ?_) | apply ext_alloc | apply ext_past | apply ext_drew | apply ext_drewN))⟩

set_option maxHeartbeats 400000 in
theorem bank_ok (c : Cfg) (x : Int) (w : World) (hL : Lims w) (hx : 0 ≤ x) (hx2 : x < lin c) (hb1 : 1 ≤ c.ba) :
    Calls Tryd.prog 21 #[.agg #[.int .i64 c.co, .int .i64 c.gr, .int .i64 c.se, .int .i64 c.wa, .int .i64 c.de, .int .i64 c.en, .int .i64 c.ba], .int .i64 x] w fun e w' => e = .returned (.tuple #[.int .i64 (x % c.ba), .int .i64 0]) ∧ Below w.heap.size w w' := by
  have h0 := hL.lt
  obtain ⟨h1, h2⟩ := lin_bd c
  have hb0 : (c.ba == 0) = false := by rw [beq_eq_false_iff_ne]; omega
  go_enter Tryd.func21, Tryd.ntmps21
  go_wp2_with (go_at_call 16; refine (lines_any c _ (by repeat (with_reducible first | assumption | (refine Lims.ext (by assumption) ?_) | apply Lims.alloc | apply Lims.past | apply Lims.drew | apply Lims.drewN))).mono ?_; rintro x w1 ⟨rfl, hb⟩; obtain ⟨hc1, hf1⟩ := bcell hb)
  go_ret2
  exact ⟨rfl, (by repeat (with_reducible first | exact Below.refl _ _ | assumption | (refine ext_next (by assumption) ?_) | apply ext_alloc | apply ext_past | apply ext_drew | apply ext_drewN))⟩
set_option maxHeartbeats 400000 in
theorem bank_no (c : Cfg) (x : Int) (w : World) (hL : Lims w) (hx : x < 0 ∨ lin c ≤ x) :
    Calls Tryd.prog 21 #[.agg #[.int .i64 c.co, .int .i64 c.gr, .int .i64 c.se, .int .i64 c.wa, .int .i64 c.de, .int .i64 c.en, .int .i64 c.ba], .int .i64 x] w fun e w' => e = .returned (.tuple #[.int .i64 0, .int .i64 10]) ∧ Below w.heap.size w w' := by
  have h0 := hL.lt
  obtain ⟨h1, h2⟩ := lin_bd c
  by_cases hn : x < 0
  · clear hx
    go_enter Tryd.func21, Tryd.ntmps21
    go_wp2_with (go_at_call 16; refine (lines_any c _ (by repeat (with_reducible first | assumption | (refine Lims.ext (by assumption) ?_) | apply Lims.alloc | apply Lims.past | apply Lims.drew | apply Lims.drewN))).mono ?_; rintro x w1 ⟨rfl, hb⟩; obtain ⟨hc1, hf1⟩ := bcell hb)
    go_ret2
    exact ⟨rfl, (by repeat (with_reducible first | exact Below.refl _ _ | assumption | (refine ext_next (by assumption) ?_) | apply ext_alloc | apply ext_past | apply ext_drew | apply ext_drewN))⟩
  · have hx2 : lin c ≤ x := by omega
    clear hx
    go_enter Tryd.func21, Tryd.ntmps21
    go_wp2_with (go_at_call 16; refine (lines_any c _ (by repeat (with_reducible first | assumption | (refine Lims.ext (by assumption) ?_) | apply Lims.alloc | apply Lims.past | apply Lims.drew | apply Lims.drewN))).mono ?_; rintro x w1 ⟨rfl, hb⟩; obtain ⟨hc1, hf1⟩ := bcell hb)
    go_ret2
    exact ⟨rfl, (by repeat (with_reducible first | exact Below.refl _ _ | assumption | (refine ext_next (by assumption) ?_) | apply ext_alloc | apply ext_past | apply ext_drew | apply ext_drewN))⟩

set_option maxHeartbeats 400000 in
theorem word_ok (c : Cfg) (x y : Int) (w : World) (hL : Lims w) (hx : 0 ≤ x) (hx2 : x < lin c) (hy : 0 ≤ y) (hy2 : y < 2) :
    Calls Tryd.prog 19 #[.agg #[.int .i64 c.co, .int .i64 c.gr, .int .i64 c.se, .int .i64 c.wa, .int .i64 c.de, .int .i64 c.en, .int .i64 c.ba], .int .i64 x, .int .i64 y] w fun e w' => e = .returned (.tuple #[.int .i64 (x * 2 + y), .int .i64 0]) ∧ Below w.heap.size w w' := by
  have h0 := hL.lt
  obtain ⟨h1, h2⟩ := lin_bd c
  go_enter Tryd.func19, Tryd.ntmps19
  go_wp2_with (go_at_call 16; refine (lines_any c _ (by repeat (with_reducible first | assumption | (refine Lims.ext (by assumption) ?_) | apply Lims.alloc | apply Lims.past | apply Lims.drew | apply Lims.drewN))).mono ?_; rintro x w1 ⟨rfl, hb⟩; obtain ⟨hc1, hf1⟩ := bcell hb)
  go_ret2
  exact ⟨rfl, (by repeat (with_reducible first | exact Below.refl _ _ | assumption | (refine ext_next (by assumption) ?_) | apply ext_alloc | apply ext_past | apply ext_drew | apply ext_drewN))⟩
set_option maxHeartbeats 400000 in
theorem word_no (c : Cfg) (x y : Int) (w : World) (hL : Lims w) (hx : x < 0 ∨ lin c ≤ x ∨ y < 0 ∨ 2 ≤ y) :
    Calls Tryd.prog 19 #[.agg #[.int .i64 c.co, .int .i64 c.gr, .int .i64 c.se, .int .i64 c.wa, .int .i64 c.de, .int .i64 c.en, .int .i64 c.ba], .int .i64 x, .int .i64 y] w fun e w' => e = .returned (.tuple #[.int .i64 0, .int .i64 10]) ∧ Below w.heap.size w w' := by
  have h0 := hL.lt
  obtain ⟨h1, h2⟩ := lin_bd c
  by_cases hn : x < 0
  · clear hx
    go_enter Tryd.func19, Tryd.ntmps19
    go_wp2_with (go_at_call 16; refine (lines_any c _ (by repeat (with_reducible first | assumption | (refine Lims.ext (by assumption) ?_) | apply Lims.alloc | apply Lims.past | apply Lims.drew | apply Lims.drewN))).mono ?_; rintro x w1 ⟨rfl, hb⟩; obtain ⟨hc1, hf1⟩ := bcell hb)
    go_ret2
    exact ⟨rfl, (by repeat (with_reducible first | exact Below.refl _ _ | assumption | (refine ext_next (by assumption) ?_) | apply ext_alloc | apply ext_past | apply ext_drew | apply ext_drewN))⟩
  · by_cases hx2 : lin c ≤ x
    · clear hx
      go_enter Tryd.func19, Tryd.ntmps19
      go_wp2_with (go_at_call 16; refine (lines_any c _ (by repeat (with_reducible first | assumption | (refine Lims.ext (by assumption) ?_) | apply Lims.alloc | apply Lims.past | apply Lims.drew | apply Lims.drewN))).mono ?_; rintro x w1 ⟨rfl, hb⟩; obtain ⟨hc1, hf1⟩ := bcell hb)
      go_ret2
      exact ⟨rfl, (by repeat (with_reducible first | exact Below.refl _ _ | assumption | (refine ext_next (by assumption) ?_) | apply ext_alloc | apply ext_past | apply ext_drew | apply ext_drewN))⟩
    · by_cases hy : y < 0
      · clear hx
        go_enter Tryd.func19, Tryd.ntmps19
        go_wp2_with (go_at_call 16; refine (lines_any c _ (by repeat (with_reducible first | assumption | (refine Lims.ext (by assumption) ?_) | apply Lims.alloc | apply Lims.past | apply Lims.drew | apply Lims.drewN))).mono ?_; rintro x w1 ⟨rfl, hb⟩; obtain ⟨hc1, hf1⟩ := bcell hb)
        go_ret2
        exact ⟨rfl, (by repeat (with_reducible first | exact Below.refl _ _ | assumption | (refine ext_next (by assumption) ?_) | apply ext_alloc | apply ext_past | apply ext_drew | apply ext_drewN))⟩
      · have hy2 : 2 ≤ y := by omega
        clear hx
        go_enter Tryd.func19, Tryd.ntmps19
        go_wp2_with (go_at_call 16; refine (lines_any c _ (by repeat (with_reducible first | assumption | (refine Lims.ext (by assumption) ?_) | apply Lims.alloc | apply Lims.past | apply Lims.drew | apply Lims.drewN))).mono ?_; rintro x w1 ⟨rfl, hb⟩; obtain ⟨hc1, hf1⟩ := bcell hb)
        go_ret2
        exact ⟨rfl, (by repeat (with_reducible first | exact Below.refl _ _ | assumption | (refine ext_next (by assumption) ?_) | apply ext_alloc | apply ext_past | apply ext_drew | apply ext_drewN))⟩

end Go.Proofs.YtnbdaffbmpbfjaaDoor
