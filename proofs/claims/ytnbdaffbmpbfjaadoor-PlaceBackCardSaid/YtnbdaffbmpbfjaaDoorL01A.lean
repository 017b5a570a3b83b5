/- What this text holds: the walk of the law PlaceChecks. Condition: the table of limits holds what its initialiser lays. -/
import Derived.Test.YtnbdaffbmpbfjaaDoorLaw01B
namespace Go.Proofs.YtnbdaffbmpbfjaaDoor
open Go.RowKit

/-- donjonlaw01.May. -/
theorem may_any (c : Cfg) (w : World) :
    Calls Tryd.prog 13 #[.agg #[.int .i64 c.co, .int .i64 c.gr, .int .i64 c.se, .int .i64 c.wa, .int .i64 c.de, .int .i64 c.en, .int .i64 c.ba]] w fun x w' => x = .returned (.bool (mayB c)) ∧ Below w.heap.size w w' := by
  go_enter Tryd.func13, Tryd.ntmps13
  go_wp2_with (go_at_call 41; refine (refmay_any c _).mono ?_; rintro x w1 ⟨rfl, hb⟩)
  go_ret
  exact ⟨rfl, (by repeat (with_reducible first | exact Below.refl _ _ | assumption | (refine ext_next (by assumption) ?_) | apply ext_alloc | apply ext_past | apply ext_drew | apply ext_drewN))⟩

set_option maxHeartbeats 1000000 in
theorem placeChecks_walk (c : Cfg) (w : World) (hL : Lims w) :
    Calls Tryd.prog 3 #[.agg #[.int .i64 c.co, .int .i64 c.gr, .int .i64 c.se, .int .i64 c.wa, .int .i64 c.de, .int .i64 c.en, .int .i64 c.ba]] w fun x w' => x = .returned (.bool true) ∧ Below w.heap.size w w' := by
  have h0 := hL.lt
  by_cases hc : c.ok
  · have em := mayB_yes hc
    have e := chk_ok hc
    have e2 : (lin c * 2 == 4 * c.gr) = true := by rw [beq_iff_eq, lin_ok hc]; omega
    have e3 : (lin c == 2 * c.gr) = true := by rw [beq_iff_eq, lin_ok hc]
    obtain ⟨_, ⟨_, _⟩, _⟩ := hc
    go_enter Tryd.func3, Tryd.ntmps3
    go_wp2_with (go_at_call 13; refine (may_any c _).mono ?_; rintro e w1 ⟨rfl, hb1⟩; obtain ⟨hc1, hf1⟩ := bcell hb1; have hz1 : w.heap.size < w1.heap.size := Nat.lt_of_lt_of_le (by first | assumption | (simp; done) | (simp; omega)) hb1.size)
    refine region_past (by kernel_rfl) (by kernel_rfl) ?_; (repeat (go_big_quiet_step (first | (go_at_call 14; exact calls_past (check_any c _ (by repeat (with_reducible first | assumption | (refine Lims.ext (by assumption) ?_) | apply Lims.alloc | apply Lims.past | apply Lims.drew | apply Lims.drewN)))) | (go_at_call 15; exact calls_past (words_any c _ (by repeat (with_reducible first | assumption | (refine Lims.ext (by assumption) ?_) | apply Lims.alloc | apply Lims.past | apply Lims.drew | apply Lims.drewN)))) | (go_at_call 16; exact calls_past (lines_any c _ (by repeat (with_reducible first | assumption | (refine Lims.ext (by assumption) ?_) | apply Lims.alloc | apply Lims.past | apply Lims.drew | apply Lims.drewN)))) | (go_at_call 17; exact calls_past (awake01 _ (by repeat (with_reducible first | assumption | (refine Lims.ext (by assumption) ?_) | apply Lims.alloc | apply Lims.past | apply Lims.drew | apply Lims.drewN))))))); refine wpQuiet_nil ?_; rintro _ ⟨p, rfl⟩
    go_wp2
    go_ret
    exact ⟨rfl, (by repeat (with_reducible first | exact Below.refl _ _ | assumption | (refine ext_next (by assumption) ?_) | apply ext_alloc | apply ext_past | apply ext_drew | apply ext_drewN))⟩
  · have em := mayB_no hc
    have e := chk_no hc
    have el := lin_no hc
    go_enter Tryd.func3, Tryd.ntmps3
    go_wp2_with fail
    refine (may_any c _).mono ?_; rintro e w1 ⟨rfl, hb1⟩; obtain ⟨hc1, hf1⟩ := bcell hb1; have hz1 : w.heap.size < w1.heap.size := Nat.lt_of_lt_of_le (by first | assumption | (simp; done) | (simp; omega)) hb1.size
    go_wp2_with fail
    refine (check_any c _ (by repeat (with_reducible first | assumption | (refine Lims.ext (by assumption) ?_) | apply Lims.alloc | apply Lims.past | apply Lims.drew | apply Lims.drewN))).mono ?_; rintro e w2 ⟨rfl, hb2⟩; obtain ⟨hc2, hf2⟩ := bcell hb2; have hz2 : w.heap.size < w2.heap.size := Nat.lt_of_lt_of_le (by first | assumption | (simp; done) | (simp; omega)) hb2.size
    go_wp2_with fail
    refine (words_any c _ (by repeat (with_reducible first | assumption | (refine Lims.ext (by assumption) ?_) | apply Lims.alloc | apply Lims.past | apply Lims.drew | apply Lims.drewN))).mono ?_; rintro e w3 ⟨rfl, hb3⟩; obtain ⟨hc3, hf3⟩ := bcell hb3; have hz3 : w.heap.size < w3.heap.size := Nat.lt_of_lt_of_le (by first | assumption | (simp; done) | (simp; omega)) hb3.size
    go_wp2_with fail
    refine (lines_any c _ (by repeat (with_reducible first | assumption | (refine Lims.ext (by assumption) ?_) | apply Lims.alloc | apply Lims.past | apply Lims.drew | apply Lims.drewN))).mono ?_; rintro e w4 ⟨rfl, hb4⟩; obtain ⟨hc4, hf4⟩ := bcell hb4; have hz4 : w.heap.size < w4.heap.size := Nat.lt_of_lt_of_le (by first | assumption | (simp; done) | (simp; omega)) hb4.size
    go_wp2_with fail
    refine (awake01 _ (by repeat (with_reducible first | assumption | (refine Lims.ext (by assumption) ?_) | apply Lims.alloc | apply Lims.past | apply Lims.drew | apply Lims.drewN))).mono ?_; rintro e w5 ⟨rfl, hb5⟩; obtain ⟨hc5, hf5⟩ := bcell hb5; have hz5 : w.heap.size < w5.heap.size := Nat.lt_of_lt_of_le (by first | assumption | (simp; done) | (simp; omega)) hb5.size
    go_wp2
    go_ret
    exact ⟨rfl, (by repeat (with_reducible first | exact Below.refl _ _ | assumption | (refine ext_next (by assumption) ?_) | apply ext_alloc | apply ext_past | apply ext_drew | apply ext_drewN))⟩

end Go.Proofs.YtnbdaffbmpbfjaaDoor
