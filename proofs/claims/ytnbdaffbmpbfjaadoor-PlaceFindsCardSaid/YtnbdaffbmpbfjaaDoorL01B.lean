/- What this text holds: the walk of the law PlaceFinds. Condition: the table of limits holds what its initialiser lays. -/
import Derived.Test.YtnbdaffbmpbfjaaDoorL01A
namespace Go.Proofs.YtnbdaffbmpbfjaaDoor
open Go.RowKit

set_option maxRecDepth 100000 in
set_option maxHeartbeats 4000000 in
theorem placeFinds_bad (c : Cfg) (x l a : Int) (w : World) (hL : Lims w) (hc : ¬ c.ok) :
    Calls Tryd.prog 4 #[.agg #[.int .i64 c.co, .int .i64 c.gr, .int .i64 c.se, .int .i64 c.wa, .int .i64 c.de, .int .i64 c.en, .int .i64 c.ba], .int .i64 x, .agg #[.int .i64 l, .int .i64 a]] w fun e w' => e = .returned (.bool true) ∧ Below w.heap.size w w' := by
  have h0 := hL.lt
  have em := mayB_no hc
  have el := lin_no hc
  go_enter Tryd.func4, Tryd.ntmps4
  go_wp2_with fail; refine (line_no c x _ (by repeat (with_reducible first | assumption | (refine Lims.ext (by assumption) ?_) | apply Lims.alloc | apply Lims.past | apply Lims.drew | apply Lims.drewN)) (by omega)).mono ?_; rintro e w1 ⟨rfl, hb1⟩; obtain ⟨hc1, hf1⟩ := bcell hb1; have hz1 : w.heap.size < w1.heap.size := Nat.lt_of_lt_of_le (by first | assumption | (simp; done) | (simp; omega)) hb1.size; have hy1 : w.heap.size + 1 < w1.heap.size := Nat.lt_of_lt_of_le (by first | assumption | (simp; done) | (simp; omega)) hb1.size
  go_wp2_with fail; refine (word_no c l a _ (by repeat (with_reducible first | assumption | (refine Lims.ext (by assumption) ?_) | apply Lims.alloc | apply Lims.past | apply Lims.drew | apply Lims.drewN)) (by omega)).mono ?_; rintro e w2 ⟨rfl, hb2⟩; obtain ⟨hc2, hf2⟩ := bcell hb2; have hz2 : w.heap.size < w2.heap.size := Nat.lt_of_lt_of_le (by first | assumption | (simp; done) | (simp; omega)) hb2.size; have hy2 : w.heap.size + 1 < w2.heap.size := Nat.lt_of_lt_of_le (by first | assumption | (simp; done) | (simp; omega)) hb2.size
  go_wp2_with fail; refine (gran_no c l _ (by repeat (with_reducible first | assumption | (refine Lims.ext (by assumption) ?_) | apply Lims.alloc | apply Lims.past | apply Lims.drew | apply Lims.drewN)) (by omega)).mono ?_; rintro e w3 ⟨rfl, hb3⟩; obtain ⟨hc3, hf3⟩ := bcell hb3; have hz3 : w.heap.size < w3.heap.size := Nat.lt_of_lt_of_le (by first | assumption | (simp; done) | (simp; omega)) hb3.size; have hy3 : w.heap.size + 1 < w3.heap.size := Nat.lt_of_lt_of_le (by first | assumption | (simp; done) | (simp; omega)) hb3.size
  go_wp2_with fail; refine (bank_no c l _ (by repeat (with_reducible first | assumption | (refine Lims.ext (by assumption) ?_) | apply Lims.alloc | apply Lims.past | apply Lims.drew | apply Lims.drewN)) (by omega)).mono ?_; rintro e w4 ⟨rfl, hb4⟩; obtain ⟨hc4, hf4⟩ := bcell hb4; have hz4 : w.heap.size < w4.heap.size := Nat.lt_of_lt_of_le (by first | assumption | (simp; done) | (simp; omega)) hb4.size; have hy4 : w.heap.size + 1 < w4.heap.size := Nat.lt_of_lt_of_le (by first | assumption | (simp; done) | (simp; omega)) hb4.size
  go_wp2_with fail; refine (may_any c _).mono ?_; rintro e w5 ⟨rfl, hb5⟩; obtain ⟨hc5, hf5⟩ := bcell hb5; have hz5 : w.heap.size < w5.heap.size := Nat.lt_of_lt_of_le (by first | assumption | (simp; done) | (simp; omega)) hb5.size; have hy5 : w.heap.size + 1 < w5.heap.size := Nat.lt_of_lt_of_le (by first | assumption | (simp; done) | (simp; omega)) hb5.size
  go_wp2_with fail; refine (awake01 _ (by repeat (with_reducible first | assumption | (refine Lims.ext (by assumption) ?_) | apply Lims.alloc | apply Lims.past | apply Lims.drew | apply Lims.drewN))).mono ?_; rintro e w6 ⟨rfl, hb6⟩; obtain ⟨hc6, hf6⟩ := bcell hb6; have hz6 : w.heap.size < w6.heap.size := Nat.lt_of_lt_of_le (by first | assumption | (simp; done) | (simp; omega)) hb6.size; have hy6 : w.heap.size + 1 < w6.heap.size := Nat.lt_of_lt_of_le (by first | assumption | (simp; done) | (simp; omega)) hb6.size
  go_wp2
  go_ret
  exact ⟨rfl, (by repeat (with_reducible first | exact Below.refl _ _ | assumption | (refine ext_next (by assumption) ?_) | apply ext_alloc | apply ext_past | apply ext_drew | apply ext_drewN))⟩

set_option maxRecDepth 100000 in
set_option maxHeartbeats 4000000 in
theorem placeFinds_xno (c : Cfg) (x l a : Int) (w : World) (hL : Lims w) (hc : c.ok) (hx : 0 ≤ x) (hx2 : x < 4 * c.gr) (hl : l < 0 ∨ 2 * c.gr ≤ l) :
    Calls Tryd.prog 4 #[.agg #[.int .i64 c.co, .int .i64 c.gr, .int .i64 c.se, .int .i64 c.wa, .int .i64 c.de, .int .i64 c.en, .int .i64 c.ba], .int .i64 x, .agg #[.int .i64 l, .int .i64 a]] w fun e w' => e = .returned (.bool true) ∧ Below w.heap.size w w' := by
  have h0 := hL.lt
  have em := mayB_yes hc
  have el := lin_ok hc
  obtain ⟨_, ⟨_, _⟩, _, _, _, _, ⟨_, _⟩⟩ := hc
  go_enter Tryd.func4, Tryd.ntmps4
  go_wp2_with fail; refine (line_ok c x _ (by repeat (with_reducible first | assumption | (refine Lims.ext (by assumption) ?_) | apply Lims.alloc | apply Lims.past | apply Lims.drew | apply Lims.drewN)) (by omega) (by omega)).mono ?_; rintro e w1 ⟨rfl, hb1⟩; obtain ⟨hc1, hf1⟩ := bcell hb1; have hz1 : w.heap.size < w1.heap.size := Nat.lt_of_lt_of_le (by first | assumption | (simp; done) | (simp; omega)) hb1.size; have hy1 : w.heap.size + 1 < w1.heap.size := Nat.lt_of_lt_of_le (by first | assumption | (simp; done) | (simp; omega)) hb1.size
  go_wp2_with fail; refine (word_no c l a _ (by repeat (with_reducible first | assumption | (refine Lims.ext (by assumption) ?_) | apply Lims.alloc | apply Lims.past | apply Lims.drew | apply Lims.drewN)) (by omega)).mono ?_; rintro e w2 ⟨rfl, hb2⟩; obtain ⟨hc2, hf2⟩ := bcell hb2; have hz2 : w.heap.size < w2.heap.size := Nat.lt_of_lt_of_le (by first | assumption | (simp; done) | (simp; omega)) hb2.size; have hy2 : w.heap.size + 1 < w2.heap.size := Nat.lt_of_lt_of_le (by first | assumption | (simp; done) | (simp; omega)) hb2.size
  go_wp2_with fail; refine (gran_no c l _ (by repeat (with_reducible first | assumption | (refine Lims.ext (by assumption) ?_) | apply Lims.alloc | apply Lims.past | apply Lims.drew | apply Lims.drewN)) (by omega)).mono ?_; rintro e w3 ⟨rfl, hb3⟩; obtain ⟨hc3, hf3⟩ := bcell hb3; have hz3 : w.heap.size < w3.heap.size := Nat.lt_of_lt_of_le (by first | assumption | (simp; done) | (simp; omega)) hb3.size; have hy3 : w.heap.size + 1 < w3.heap.size := Nat.lt_of_lt_of_le (by first | assumption | (simp; done) | (simp; omega)) hb3.size
  go_wp2_with fail; refine (bank_no c l _ (by repeat (with_reducible first | assumption | (refine Lims.ext (by assumption) ?_) | apply Lims.alloc | apply Lims.past | apply Lims.drew | apply Lims.drewN)) (by omega)).mono ?_; rintro e w4 ⟨rfl, hb4⟩; obtain ⟨hc4, hf4⟩ := bcell hb4; have hz4 : w.heap.size < w4.heap.size := Nat.lt_of_lt_of_le (by first | assumption | (simp; done) | (simp; omega)) hb4.size; have hy4 : w.heap.size + 1 < w4.heap.size := Nat.lt_of_lt_of_le (by first | assumption | (simp; done) | (simp; omega)) hb4.size
  go_wp2_with fail; refine (may_any c _).mono ?_; rintro e w5 ⟨rfl, hb5⟩; obtain ⟨hc5, hf5⟩ := bcell hb5; have hz5 : w.heap.size < w5.heap.size := Nat.lt_of_lt_of_le (by first | assumption | (simp; done) | (simp; omega)) hb5.size; have hy5 : w.heap.size + 1 < w5.heap.size := Nat.lt_of_lt_of_le (by first | assumption | (simp; done) | (simp; omega)) hb5.size
  go_wp2_with fail; refine (refof_ok c.gr x _ (by omega) (by omega) (by omega) (by omega)).mono ?_; rintro e w' ⟨rfl, rfl⟩
  go_wp2_with fail; refine (refgran_no c.gr l _ (by omega) (by omega) (by omega)).mono ?_; rintro e w' ⟨rfl, rfl⟩
  go_wp2_with fail; refine (awake01 _ (by repeat (with_reducible first | assumption | (refine Lims.ext (by assumption) ?_) | apply Lims.alloc | apply Lims.past | apply Lims.drew | apply Lims.drewN))).mono ?_; rintro e w6 ⟨rfl, hb6⟩; obtain ⟨hc6, hf6⟩ := bcell hb6; have hz6 : w.heap.size < w6.heap.size := Nat.lt_of_lt_of_le (by first | assumption | (simp; done) | (simp; omega)) hb6.size; have hy6 : w.heap.size + 1 < w6.heap.size := Nat.lt_of_lt_of_le (by first | assumption | (simp; done) | (simp; omega)) hb6.size
  go_wp2
  go_ret
  exact ⟨rfl, (by repeat (with_reducible first | exact Below.refl _ _ | assumption | (refine ext_next (by assumption) ?_) | apply ext_alloc | apply ext_past | apply ext_drew | apply ext_drewN))⟩

set_option maxRecDepth 100000 in
set_option maxHeartbeats 4000000 in
theorem placeFinds_xin (c : Cfg) (x l a : Int) (w : World) (hL : Lims w) (hc : c.ok) (hx : 0 ≤ x) (hx2 : x < 4 * c.gr) (hl : 0 ≤ l) (hl2 : l < 2 * c.gr) (ha : 0 ≤ a) (ha2 : a < 2) :
    Calls Tryd.prog 4 #[.agg #[.int .i64 c.co, .int .i64 c.gr, .int .i64 c.se, .int .i64 c.wa, .int .i64 c.de, .int .i64 c.en, .int .i64 c.ba], .int .i64 x, .agg #[.int .i64 l, .int .i64 a]] w fun e w' => e = .returned (.bool true) ∧ Below w.heap.size w w' := by
  have h0 := hL.lt
  have em := mayB_yes hc
  have el := lin_ok hc
  obtain ⟨_, ⟨_, _⟩, _, _, _, _, ⟨_, _⟩⟩ := hc
  have e2 : (l * 2 + a == 2 * l + a) = true := by rw [beq_iff_eq]; omega
  have hb0 : (c.ba == 0) = false := by rw [beq_eq_false_iff_ne]; omega
  go_enter Tryd.func4, Tryd.ntmps4
  go_wp2_with fail; refine (line_ok c x _ (by repeat (with_reducible first | assumption | (refine Lims.ext (by assumption) ?_) | apply Lims.alloc | apply Lims.past | apply Lims.drew | apply Lims.drewN)) (by omega) (by omega)).mono ?_; rintro e w1 ⟨rfl, hb1⟩; obtain ⟨hc1, hf1⟩ := bcell hb1; have hz1 : w.heap.size < w1.heap.size := Nat.lt_of_lt_of_le (by first | assumption | (simp; done) | (simp; omega)) hb1.size; have hy1 : w.heap.size + 1 < w1.heap.size := Nat.lt_of_lt_of_le (by first | assumption | (simp; done) | (simp; omega)) hb1.size
  go_wp2_with fail; refine (word_ok c l a _ (by repeat (with_reducible first | assumption | (refine Lims.ext (by assumption) ?_) | apply Lims.alloc | apply Lims.past | apply Lims.drew | apply Lims.drewN)) (by omega) (by omega) (by omega) (by omega)).mono ?_; rintro e w2 ⟨rfl, hb2⟩; obtain ⟨hc2, hf2⟩ := bcell hb2; have hz2 : w.heap.size < w2.heap.size := Nat.lt_of_lt_of_le (by first | assumption | (simp; done) | (simp; omega)) hb2.size; have hy2 : w.heap.size + 1 < w2.heap.size := Nat.lt_of_lt_of_le (by first | assumption | (simp; done) | (simp; omega)) hb2.size
  go_wp2_with fail; refine (gran_ok c l _ (by repeat (with_reducible first | assumption | (refine Lims.ext (by assumption) ?_) | apply Lims.alloc | apply Lims.past | apply Lims.drew | apply Lims.drewN)) (by omega) (by omega)).mono ?_; rintro e w3 ⟨rfl, hb3⟩; obtain ⟨hc3, hf3⟩ := bcell hb3; have hz3 : w.heap.size < w3.heap.size := Nat.lt_of_lt_of_le (by first | assumption | (simp; done) | (simp; omega)) hb3.size; have hy3 : w.heap.size + 1 < w3.heap.size := Nat.lt_of_lt_of_le (by first | assumption | (simp; done) | (simp; omega)) hb3.size
  go_wp2_with fail; refine (bank_ok c l _ (by repeat (with_reducible first | assumption | (refine Lims.ext (by assumption) ?_) | apply Lims.alloc | apply Lims.past | apply Lims.drew | apply Lims.drewN)) (by omega) (by omega) (by omega)).mono ?_; rintro e w4 ⟨rfl, hb4⟩; obtain ⟨hc4, hf4⟩ := bcell hb4; have hz4 : w.heap.size < w4.heap.size := Nat.lt_of_lt_of_le (by first | assumption | (simp; done) | (simp; omega)) hb4.size; have hy4 : w.heap.size + 1 < w4.heap.size := Nat.lt_of_lt_of_le (by first | assumption | (simp; done) | (simp; omega)) hb4.size
  go_wp2_with fail; refine (may_any c _).mono ?_; rintro e w5 ⟨rfl, hb5⟩; obtain ⟨hc5, hf5⟩ := bcell hb5; have hz5 : w.heap.size < w5.heap.size := Nat.lt_of_lt_of_le (by first | assumption | (simp; done) | (simp; omega)) hb5.size; have hy5 : w.heap.size + 1 < w5.heap.size := Nat.lt_of_lt_of_le (by first | assumption | (simp; done) | (simp; omega)) hb5.size
  go_wp2_with fail; refine (refof_ok c.gr x _ (by omega) (by omega) (by omega) (by omega)).mono ?_; rintro e w' ⟨rfl, rfl⟩
  go_wp2_with fail; refine (refgran_ok c.gr l _ (by omega) (by omega) (by omega) (by omega)).mono ?_; rintro e w' ⟨rfl, rfl⟩
  go_wp2_with fail; refine (awake01 _ (by repeat (with_reducible first | assumption | (refine Lims.ext (by assumption) ?_) | apply Lims.alloc | apply Lims.past | apply Lims.drew | apply Lims.drewN))).mono ?_; rintro e w6 ⟨rfl, hb6⟩; obtain ⟨hc6, hf6⟩ := bcell hb6; have hz6 : w.heap.size < w6.heap.size := Nat.lt_of_lt_of_le (by first | assumption | (simp; done) | (simp; omega)) hb6.size; have hy6 : w.heap.size + 1 < w6.heap.size := Nat.lt_of_lt_of_le (by first | assumption | (simp; done) | (simp; omega)) hb6.size
  go_wp2
  go_ret
  exact ⟨rfl, (by repeat (with_reducible first | exact Below.refl _ _ | assumption | (refine ext_next (by assumption) ?_) | apply ext_alloc | apply ext_past | apply ext_drew | apply ext_drewN))⟩

set_option maxRecDepth 100000 in
set_option maxHeartbeats 4000000 in
theorem placeFinds_xal (c : Cfg) (x l a : Int) (w : World) (hL : Lims w) (hc : c.ok) (hx : 0 ≤ x) (hx2 : x < 4 * c.gr) (hl : 0 ≤ l) (hl2 : l < 2 * c.gr) (ha : a < 0) :
    Calls Tryd.prog 4 #[.agg #[.int .i64 c.co, .int .i64 c.gr, .int .i64 c.se, .int .i64 c.wa, .int .i64 c.de, .int .i64 c.en, .int .i64 c.ba], .int .i64 x, .agg #[.int .i64 l, .int .i64 a]] w fun e w' => e = .returned (.bool true) ∧ Below w.heap.size w w' := by
  have h0 := hL.lt
  have em := mayB_yes hc
  have el := lin_ok hc
  obtain ⟨_, ⟨_, _⟩, _, _, _, _, ⟨_, _⟩⟩ := hc
  go_enter Tryd.func4, Tryd.ntmps4
  go_wp2_with fail; refine (line_ok c x _ (by repeat (with_reducible first | assumption | (refine Lims.ext (by assumption) ?_) | apply Lims.alloc | apply Lims.past | apply Lims.drew | apply Lims.drewN)) (by omega) (by omega)).mono ?_; rintro e w1 ⟨rfl, hb1⟩; obtain ⟨hc1, hf1⟩ := bcell hb1; have hz1 : w.heap.size < w1.heap.size := Nat.lt_of_lt_of_le (by first | assumption | (simp; done) | (simp; omega)) hb1.size; have hy1 : w.heap.size + 1 < w1.heap.size := Nat.lt_of_lt_of_le (by first | assumption | (simp; done) | (simp; omega)) hb1.size
  go_wp2_with fail; refine (word_no c l a _ (by repeat (with_reducible first | assumption | (refine Lims.ext (by assumption) ?_) | apply Lims.alloc | apply Lims.past | apply Lims.drew | apply Lims.drewN)) (by omega)).mono ?_; rintro e w2 ⟨rfl, hb2⟩; obtain ⟨hc2, hf2⟩ := bcell hb2; have hz2 : w.heap.size < w2.heap.size := Nat.lt_of_lt_of_le (by first | assumption | (simp; done) | (simp; omega)) hb2.size; have hy2 : w.heap.size + 1 < w2.heap.size := Nat.lt_of_lt_of_le (by first | assumption | (simp; done) | (simp; omega)) hb2.size
  go_wp2_with fail; refine (gran_ok c l _ (by repeat (with_reducible first | assumption | (refine Lims.ext (by assumption) ?_) | apply Lims.alloc | apply Lims.past | apply Lims.drew | apply Lims.drewN)) (by omega) (by omega)).mono ?_; rintro e w3 ⟨rfl, hb3⟩; obtain ⟨hc3, hf3⟩ := bcell hb3; have hz3 : w.heap.size < w3.heap.size := Nat.lt_of_lt_of_le (by first | assumption | (simp; done) | (simp; omega)) hb3.size; have hy3 : w.heap.size + 1 < w3.heap.size := Nat.lt_of_lt_of_le (by first | assumption | (simp; done) | (simp; omega)) hb3.size
  go_wp2_with fail; refine (bank_ok c l _ (by repeat (with_reducible first | assumption | (refine Lims.ext (by assumption) ?_) | apply Lims.alloc | apply Lims.past | apply Lims.drew | apply Lims.drewN)) (by omega) (by omega) (by omega)).mono ?_; rintro e w4 ⟨rfl, hb4⟩; obtain ⟨hc4, hf4⟩ := bcell hb4; have hz4 : w.heap.size < w4.heap.size := Nat.lt_of_lt_of_le (by first | assumption | (simp; done) | (simp; omega)) hb4.size; have hy4 : w.heap.size + 1 < w4.heap.size := Nat.lt_of_lt_of_le (by first | assumption | (simp; done) | (simp; omega)) hb4.size
  go_wp2_with fail; refine (may_any c _).mono ?_; rintro e w5 ⟨rfl, hb5⟩; obtain ⟨hc5, hf5⟩ := bcell hb5; have hz5 : w.heap.size < w5.heap.size := Nat.lt_of_lt_of_le (by first | assumption | (simp; done) | (simp; omega)) hb5.size; have hy5 : w.heap.size + 1 < w5.heap.size := Nat.lt_of_lt_of_le (by first | assumption | (simp; done) | (simp; omega)) hb5.size
  go_wp2_with fail; refine (refof_ok c.gr x _ (by omega) (by omega) (by omega) (by omega)).mono ?_; rintro e w' ⟨rfl, rfl⟩
  go_wp2_with fail; refine (refgran_ok c.gr l _ (by omega) (by omega) (by omega) (by omega)).mono ?_; rintro e w' ⟨rfl, rfl⟩
  go_wp2_with fail; refine (awake01 _ (by repeat (with_reducible first | assumption | (refine Lims.ext (by assumption) ?_) | apply Lims.alloc | apply Lims.past | apply Lims.drew | apply Lims.drewN))).mono ?_; rintro e w6 ⟨rfl, hb6⟩; obtain ⟨hc6, hf6⟩ := bcell hb6; have hz6 : w.heap.size < w6.heap.size := Nat.lt_of_lt_of_le (by first | assumption | (simp; done) | (simp; omega)) hb6.size; have hy6 : w.heap.size + 1 < w6.heap.size := Nat.lt_of_lt_of_le (by first | assumption | (simp; done) | (simp; omega)) hb6.size
  go_wp2
  go_ret
  exact ⟨rfl, (by repeat (with_reducible first | exact Below.refl _ _ | assumption | (refine ext_next (by assumption) ?_) | apply ext_alloc | apply ext_past | apply ext_drew | apply ext_drewN))⟩


set_option maxRecDepth 100000 in
set_option maxHeartbeats 4000000 in
theorem placeFinds_xah (c : Cfg) (x l a : Int) (w : World) (hL : Lims w) (hc : c.ok) (hx : 0 ≤ x) (hx2 : x < 4 * c.gr) (hl : 0 ≤ l) (hl2 : l < 2 * c.gr) (ha : 2 ≤ a) :
    Calls Tryd.prog 4 #[.agg #[.int .i64 c.co, .int .i64 c.gr, .int .i64 c.se, .int .i64 c.wa, .int .i64 c.de, .int .i64 c.en, .int .i64 c.ba], .int .i64 x, .agg #[.int .i64 l, .int .i64 a]] w fun e w' => e = .returned (.bool true) ∧ Below w.heap.size w w' := by
  have h0 := hL.lt
  have em := mayB_yes hc
  have el := lin_ok hc
  obtain ⟨_, ⟨_, _⟩, _, _, _, _, ⟨_, _⟩⟩ := hc
  go_enter Tryd.func4, Tryd.ntmps4
  go_wp2_with fail; refine (line_ok c x _ (by repeat (with_reducible first | assumption | (refine Lims.ext (by assumption) ?_) | apply Lims.alloc | apply Lims.past | apply Lims.drew | apply Lims.drewN)) (by omega) (by omega)).mono ?_; rintro e w1 ⟨rfl, hb1⟩; obtain ⟨hc1, hf1⟩ := bcell hb1; have hz1 : w.heap.size < w1.heap.size := Nat.lt_of_lt_of_le (by first | assumption | (simp; done) | (simp; omega)) hb1.size; have hy1 : w.heap.size + 1 < w1.heap.size := Nat.lt_of_lt_of_le (by first | assumption | (simp; done) | (simp; omega)) hb1.size
  go_wp2_with fail; refine (word_no c l a _ (by repeat (with_reducible first | assumption | (refine Lims.ext (by assumption) ?_) | apply Lims.alloc | apply Lims.past | apply Lims.drew | apply Lims.drewN)) (by omega)).mono ?_; rintro e w2 ⟨rfl, hb2⟩; obtain ⟨hc2, hf2⟩ := bcell hb2; have hz2 : w.heap.size < w2.heap.size := Nat.lt_of_lt_of_le (by first | assumption | (simp; done) | (simp; omega)) hb2.size; have hy2 : w.heap.size + 1 < w2.heap.size := Nat.lt_of_lt_of_le (by first | assumption | (simp; done) | (simp; omega)) hb2.size
  go_wp2_with fail; refine (gran_ok c l _ (by repeat (with_reducible first | assumption | (refine Lims.ext (by assumption) ?_) | apply Lims.alloc | apply Lims.past | apply Lims.drew | apply Lims.drewN)) (by omega) (by omega)).mono ?_; rintro e w3 ⟨rfl, hb3⟩; obtain ⟨hc3, hf3⟩ := bcell hb3; have hz3 : w.heap.size < w3.heap.size := Nat.lt_of_lt_of_le (by first | assumption | (simp; done) | (simp; omega)) hb3.size; have hy3 : w.heap.size + 1 < w3.heap.size := Nat.lt_of_lt_of_le (by first | assumption | (simp; done) | (simp; omega)) hb3.size
  go_wp2_with fail; refine (bank_ok c l _ (by repeat (with_reducible first | assumption | (refine Lims.ext (by assumption) ?_) | apply Lims.alloc | apply Lims.past | apply Lims.drew | apply Lims.drewN)) (by omega) (by omega) (by omega)).mono ?_; rintro e w4 ⟨rfl, hb4⟩; obtain ⟨hc4, hf4⟩ := bcell hb4; have hz4 : w.heap.size < w4.heap.size := Nat.lt_of_lt_of_le (by first | assumption | (simp; done) | (simp; omega)) hb4.size; have hy4 : w.heap.size + 1 < w4.heap.size := Nat.lt_of_lt_of_le (by first | assumption | (simp; done) | (simp; omega)) hb4.size
  go_wp2_with fail; refine (may_any c _).mono ?_; rintro e w5 ⟨rfl, hb5⟩; obtain ⟨hc5, hf5⟩ := bcell hb5; have hz5 : w.heap.size < w5.heap.size := Nat.lt_of_lt_of_le (by first | assumption | (simp; done) | (simp; omega)) hb5.size; have hy5 : w.heap.size + 1 < w5.heap.size := Nat.lt_of_lt_of_le (by first | assumption | (simp; done) | (simp; omega)) hb5.size
  go_wp2_with fail; refine (refof_ok c.gr x _ (by omega) (by omega) (by omega) (by omega)).mono ?_; rintro e w' ⟨rfl, rfl⟩
  go_wp2_with fail; refine (refgran_ok c.gr l _ (by omega) (by omega) (by omega) (by omega)).mono ?_; rintro e w' ⟨rfl, rfl⟩
  go_wp2_with fail; refine (awake01 _ (by repeat (with_reducible first | assumption | (refine Lims.ext (by assumption) ?_) | apply Lims.alloc | apply Lims.past | apply Lims.drew | apply Lims.drewN))).mono ?_; rintro e w6 ⟨rfl, hb6⟩; obtain ⟨hc6, hf6⟩ := bcell hb6; have hz6 : w.heap.size < w6.heap.size := Nat.lt_of_lt_of_le (by first | assumption | (simp; done) | (simp; omega)) hb6.size; have hy6 : w.heap.size + 1 < w6.heap.size := Nat.lt_of_lt_of_le (by first | assumption | (simp; done) | (simp; omega)) hb6.size
  go_wp2
  go_ret
  exact ⟨rfl, (by repeat (with_reducible first | exact Below.refl _ _ | assumption | (refine ext_next (by assumption) ?_) | apply ext_alloc | apply ext_past | apply ext_drew | apply ext_drewN))⟩

set_option maxRecDepth 100000 in
set_option maxHeartbeats 4000000 in
theorem placeFinds_yno (c : Cfg) (x l a : Int) (w : World) (hL : Lims w) (hc : c.ok) (hx : x < 0 ∨ 4 * c.gr ≤ x) (hl : l < 0 ∨ 2 * c.gr ≤ l) :
    Calls Tryd.prog 4 #[.agg #[.int .i64 c.co, .int .i64 c.gr, .int .i64 c.se, .int .i64 c.wa, .int .i64 c.de, .int .i64 c.en, .int .i64 c.ba], .int .i64 x, .agg #[.int .i64 l, .int .i64 a]] w fun e w' => e = .returned (.bool true) ∧ Below w.heap.size w w' := by
  have h0 := hL.lt
  have em := mayB_yes hc
  have el := lin_ok hc
  obtain ⟨_, ⟨_, _⟩, _, _, _, _, ⟨_, _⟩⟩ := hc
  go_enter Tryd.func4, Tryd.ntmps4
  go_wp2_with fail; refine (line_no c x _ (by repeat (with_reducible first | assumption | (refine Lims.ext (by assumption) ?_) | apply Lims.alloc | apply Lims.past | apply Lims.drew | apply Lims.drewN)) (by omega)).mono ?_; rintro e w1 ⟨rfl, hb1⟩; obtain ⟨hc1, hf1⟩ := bcell hb1; have hz1 : w.heap.size < w1.heap.size := Nat.lt_of_lt_of_le (by first | assumption | (simp; done) | (simp; omega)) hb1.size; have hy1 : w.heap.size + 1 < w1.heap.size := Nat.lt_of_lt_of_le (by first | assumption | (simp; done) | (simp; omega)) hb1.size
  go_wp2_with fail; refine (word_no c l a _ (by repeat (with_reducible first | assumption | (refine Lims.ext (by assumption) ?_) | apply Lims.alloc | apply Lims.past | apply Lims.drew | apply Lims.drewN)) (by omega)).mono ?_; rintro e w2 ⟨rfl, hb2⟩; obtain ⟨hc2, hf2⟩ := bcell hb2; have hz2 : w.heap.size < w2.heap.size := Nat.lt_of_lt_of_le (by first | assumption | (simp; done) | (simp; omega)) hb2.size; have hy2 : w.heap.size + 1 < w2.heap.size := Nat.lt_of_lt_of_le (by first | assumption | (simp; done) | (simp; omega)) hb2.size
  go_wp2_with fail; refine (gran_no c l _ (by repeat (with_reducible first | assumption | (refine Lims.ext (by assumption) ?_) | apply Lims.alloc | apply Lims.past | apply Lims.drew | apply Lims.drewN)) (by omega)).mono ?_; rintro e w3 ⟨rfl, hb3⟩; obtain ⟨hc3, hf3⟩ := bcell hb3; have hz3 : w.heap.size < w3.heap.size := Nat.lt_of_lt_of_le (by first | assumption | (simp; done) | (simp; omega)) hb3.size; have hy3 : w.heap.size + 1 < w3.heap.size := Nat.lt_of_lt_of_le (by first | assumption | (simp; done) | (simp; omega)) hb3.size
  go_wp2_with fail; refine (bank_no c l _ (by repeat (with_reducible first | assumption | (refine Lims.ext (by assumption) ?_) | apply Lims.alloc | apply Lims.past | apply Lims.drew | apply Lims.drewN)) (by omega)).mono ?_; rintro e w4 ⟨rfl, hb4⟩; obtain ⟨hc4, hf4⟩ := bcell hb4; have hz4 : w.heap.size < w4.heap.size := Nat.lt_of_lt_of_le (by first | assumption | (simp; done) | (simp; omega)) hb4.size; have hy4 : w.heap.size + 1 < w4.heap.size := Nat.lt_of_lt_of_le (by first | assumption | (simp; done) | (simp; omega)) hb4.size
  go_wp2_with fail; refine (may_any c _).mono ?_; rintro e w5 ⟨rfl, hb5⟩; obtain ⟨hc5, hf5⟩ := bcell hb5; have hz5 : w.heap.size < w5.heap.size := Nat.lt_of_lt_of_le (by first | assumption | (simp; done) | (simp; omega)) hb5.size; have hy5 : w.heap.size + 1 < w5.heap.size := Nat.lt_of_lt_of_le (by first | assumption | (simp; done) | (simp; omega)) hb5.size
  go_wp2_with fail; refine (refof_no c.gr x _ (by omega) (by omega) (by omega)).mono ?_; rintro e w' ⟨rfl, rfl⟩
  go_wp2_with fail; refine (refgran_no c.gr l _ (by omega) (by omega) (by omega)).mono ?_; rintro e w' ⟨rfl, rfl⟩
  go_wp2_with fail; refine (awake01 _ (by repeat (with_reducible first | assumption | (refine Lims.ext (by assumption) ?_) | apply Lims.alloc | apply Lims.past | apply Lims.drew | apply Lims.drewN))).mono ?_; rintro e w6 ⟨rfl, hb6⟩; obtain ⟨hc6, hf6⟩ := bcell hb6; have hz6 : w.heap.size < w6.heap.size := Nat.lt_of_lt_of_le (by first | assumption | (simp; done) | (simp; omega)) hb6.size; have hy6 : w.heap.size + 1 < w6.heap.size := Nat.lt_of_lt_of_le (by first | assumption | (simp; done) | (simp; omega)) hb6.size
  go_wp2
  go_ret
  exact ⟨rfl, (by repeat (with_reducible first | exact Below.refl _ _ | assumption | (refine ext_next (by assumption) ?_) | apply ext_alloc | apply ext_past | apply ext_drew | apply ext_drewN))⟩

set_option maxRecDepth 100000 in
set_option maxHeartbeats 4000000 in
theorem placeFinds_yin (c : Cfg) (x l a : Int) (w : World) (hL : Lims w) (hc : c.ok) (hx : x < 0 ∨ 4 * c.gr ≤ x) (hl : 0 ≤ l) (hl2 : l < 2 * c.gr) (ha : 0 ≤ a) (ha2 : a < 2) :
    Calls Tryd.prog 4 #[.agg #[.int .i64 c.co, .int .i64 c.gr, .int .i64 c.se, .int .i64 c.wa, .int .i64 c.de, .int .i64 c.en, .int .i64 c.ba], .int .i64 x, .agg #[.int .i64 l, .int .i64 a]] w fun e w' => e = .returned (.bool true) ∧ Below w.heap.size w w' := by
  have h0 := hL.lt
  have em := mayB_yes hc
  have el := lin_ok hc
  obtain ⟨_, ⟨_, _⟩, _, _, _, _, ⟨_, _⟩⟩ := hc
  have e2 : (l * 2 + a == 2 * l + a) = true := by rw [beq_iff_eq]; omega
  have hb0 : (c.ba == 0) = false := by rw [beq_eq_false_iff_ne]; omega
  go_enter Tryd.func4, Tryd.ntmps4
  go_wp2_with fail; refine (line_no c x _ (by repeat (with_reducible first | assumption | (refine Lims.ext (by assumption) ?_) | apply Lims.alloc | apply Lims.past | apply Lims.drew | apply Lims.drewN)) (by omega)).mono ?_; rintro e w1 ⟨rfl, hb1⟩; obtain ⟨hc1, hf1⟩ := bcell hb1; have hz1 : w.heap.size < w1.heap.size := Nat.lt_of_lt_of_le (by first | assumption | (simp; done) | (simp; omega)) hb1.size; have hy1 : w.heap.size + 1 < w1.heap.size := Nat.lt_of_lt_of_le (by first | assumption | (simp; done) | (simp; omega)) hb1.size
  go_wp2_with fail; refine (word_ok c l a _ (by repeat (with_reducible first | assumption | (refine Lims.ext (by assumption) ?_) | apply Lims.alloc | apply Lims.past | apply Lims.drew | apply Lims.drewN)) (by omega) (by omega) (by omega) (by omega)).mono ?_; rintro e w2 ⟨rfl, hb2⟩; obtain ⟨hc2, hf2⟩ := bcell hb2; have hz2 : w.heap.size < w2.heap.size := Nat.lt_of_lt_of_le (by first | assumption | (simp; done) | (simp; omega)) hb2.size; have hy2 : w.heap.size + 1 < w2.heap.size := Nat.lt_of_lt_of_le (by first | assumption | (simp; done) | (simp; omega)) hb2.size
  go_wp2_with fail; refine (gran_ok c l _ (by repeat (with_reducible first | assumption | (refine Lims.ext (by assumption) ?_) | apply Lims.alloc | apply Lims.past | apply Lims.drew | apply Lims.drewN)) (by omega) (by omega)).mono ?_; rintro e w3 ⟨rfl, hb3⟩; obtain ⟨hc3, hf3⟩ := bcell hb3; have hz3 : w.heap.size < w3.heap.size := Nat.lt_of_lt_of_le (by first | assumption | (simp; done) | (simp; omega)) hb3.size; have hy3 : w.heap.size + 1 < w3.heap.size := Nat.lt_of_lt_of_le (by first | assumption | (simp; done) | (simp; omega)) hb3.size
  go_wp2_with fail; refine (bank_ok c l _ (by repeat (with_reducible first | assumption | (refine Lims.ext (by assumption) ?_) | apply Lims.alloc | apply Lims.past | apply Lims.drew | apply Lims.drewN)) (by omega) (by omega) (by omega)).mono ?_; rintro e w4 ⟨rfl, hb4⟩; obtain ⟨hc4, hf4⟩ := bcell hb4; have hz4 : w.heap.size < w4.heap.size := Nat.lt_of_lt_of_le (by first | assumption | (simp; done) | (simp; omega)) hb4.size; have hy4 : w.heap.size + 1 < w4.heap.size := Nat.lt_of_lt_of_le (by first | assumption | (simp; done) | (simp; omega)) hb4.size
  go_wp2_with fail; refine (may_any c _).mono ?_; rintro e w5 ⟨rfl, hb5⟩; obtain ⟨hc5, hf5⟩ := bcell hb5; have hz5 : w.heap.size < w5.heap.size := Nat.lt_of_lt_of_le (by first | assumption | (simp; done) | (simp; omega)) hb5.size; have hy5 : w.heap.size + 1 < w5.heap.size := Nat.lt_of_lt_of_le (by first | assumption | (simp; done) | (simp; omega)) hb5.size
  go_wp2_with fail; refine (refof_no c.gr x _ (by omega) (by omega) (by omega)).mono ?_; rintro e w' ⟨rfl, rfl⟩
  go_wp2_with fail; refine (refgran_ok c.gr l _ (by omega) (by omega) (by omega) (by omega)).mono ?_; rintro e w' ⟨rfl, rfl⟩
  go_wp2_with fail; refine (awake01 _ (by repeat (with_reducible first | assumption | (refine Lims.ext (by assumption) ?_) | apply Lims.alloc | apply Lims.past | apply Lims.drew | apply Lims.drewN))).mono ?_; rintro e w6 ⟨rfl, hb6⟩; obtain ⟨hc6, hf6⟩ := bcell hb6; have hz6 : w.heap.size < w6.heap.size := Nat.lt_of_lt_of_le (by first | assumption | (simp; done) | (simp; omega)) hb6.size; have hy6 : w.heap.size + 1 < w6.heap.size := Nat.lt_of_lt_of_le (by first | assumption | (simp; done) | (simp; omega)) hb6.size
  go_wp2
  go_ret
  exact ⟨rfl, (by repeat (with_reducible first | exact Below.refl _ _ | assumption | (refine ext_next (by assumption) ?_) | apply ext_alloc | apply ext_past | apply ext_drew | apply ext_drewN))⟩

set_option maxRecDepth 100000 in
set_option maxHeartbeats 4000000 in
theorem placeFinds_yal (c : Cfg) (x l a : Int) (w : World) (hL : Lims w) (hc : c.ok) (hx : x < 0 ∨ 4 * c.gr ≤ x) (hl : 0 ≤ l) (hl2 : l < 2 * c.gr) (ha : a < 0) :
    Calls Tryd.prog 4 #[.agg #[.int .i64 c.co, .int .i64 c.gr, .int .i64 c.se, .int .i64 c.wa, .int .i64 c.de, .int .i64 c.en, .int .i64 c.ba], .int .i64 x, .agg #[.int .i64 l, .int .i64 a]] w fun e w' => e = .returned (.bool true) ∧ Below w.heap.size w w' := by
  have h0 := hL.lt
  have em := mayB_yes hc
  have el := lin_ok hc
  obtain ⟨_, ⟨_, _⟩, _, _, _, _, ⟨_, _⟩⟩ := hc
  go_enter Tryd.func4, Tryd.ntmps4
  go_wp2_with fail; refine (line_no c x _ (by repeat (with_reducible first | assumption | (refine Lims.ext (by assumption) ?_) | apply Lims.alloc | apply Lims.past | apply Lims.drew | apply Lims.drewN)) (by omega)).mono ?_; rintro e w1 ⟨rfl, hb1⟩; obtain ⟨hc1, hf1⟩ := bcell hb1; have hz1 : w.heap.size < w1.heap.size := Nat.lt_of_lt_of_le (by first | assumption | (simp; done) | (simp; omega)) hb1.size; have hy1 : w.heap.size + 1 < w1.heap.size := Nat.lt_of_lt_of_le (by first | assumption | (simp; done) | (simp; omega)) hb1.size
  go_wp2_with fail; refine (word_no c l a _ (by repeat (with_reducible first | assumption | (refine Lims.ext (by assumption) ?_) | apply Lims.alloc | apply Lims.past | apply Lims.drew | apply Lims.drewN)) (by omega)).mono ?_; rintro e w2 ⟨rfl, hb2⟩; obtain ⟨hc2, hf2⟩ := bcell hb2; have hz2 : w.heap.size < w2.heap.size := Nat.lt_of_lt_of_le (by first | assumption | (simp; done) | (simp; omega)) hb2.size; have hy2 : w.heap.size + 1 < w2.heap.size := Nat.lt_of_lt_of_le (by first | assumption | (simp; done) | (simp; omega)) hb2.size
  go_wp2_with fail; refine (gran_ok c l _ (by repeat (with_reducible first | assumption | (refine Lims.ext (by assumption) ?_) | apply Lims.alloc | apply Lims.past | apply Lims.drew | apply Lims.drewN)) (by omega) (by omega)).mono ?_; rintro e w3 ⟨rfl, hb3⟩; obtain ⟨hc3, hf3⟩ := bcell hb3; have hz3 : w.heap.size < w3.heap.size := Nat.lt_of_lt_of_le (by first | assumption | (simp; done) | (simp; omega)) hb3.size; have hy3 : w.heap.size + 1 < w3.heap.size := Nat.lt_of_lt_of_le (by first | assumption | (simp; done) | (simp; omega)) hb3.size
  go_wp2_with fail; refine (bank_ok c l _ (by repeat (with_reducible first | assumption | (refine Lims.ext (by assumption) ?_) | apply Lims.alloc | apply Lims.past | apply Lims.drew | apply Lims.drewN)) (by omega) (by omega) (by omega)).mono ?_; rintro e w4 ⟨rfl, hb4⟩; obtain ⟨hc4, hf4⟩ := bcell hb4; have hz4 : w.heap.size < w4.heap.size := Nat.lt_of_lt_of_le (by first | assumption | (simp; done) | (simp; omega)) hb4.size; have hy4 : w.heap.size + 1 < w4.heap.size := Nat.lt_of_lt_of_le (by first | assumption | (simp; done) | (simp; omega)) hb4.size
  go_wp2_with fail; refine (may_any c _).mono ?_; rintro e w5 ⟨rfl, hb5⟩; obtain ⟨hc5, hf5⟩ := bcell hb5; have hz5 : w.heap.size < w5.heap.size := Nat.lt_of_lt_of_le (by first | assumption | (simp; done) | (simp; omega)) hb5.size; have hy5 : w.heap.size + 1 < w5.heap.size := Nat.lt_of_lt_of_le (by first | assumption | (simp; done) | (simp; omega)) hb5.size
  go_wp2_with fail; refine (refof_no c.gr x _ (by omega) (by omega) (by omega)).mono ?_; rintro e w' ⟨rfl, rfl⟩
  go_wp2_with fail; refine (refgran_ok c.gr l _ (by omega) (by omega) (by omega) (by omega)).mono ?_; rintro e w' ⟨rfl, rfl⟩
  go_wp2_with fail; refine (awake01 _ (by repeat (with_reducible first | assumption | (refine Lims.ext (by assumption) ?_) | apply Lims.alloc | apply Lims.past | apply Lims.drew | apply Lims.drewN))).mono ?_; rintro e w6 ⟨rfl, hb6⟩; obtain ⟨hc6, hf6⟩ := bcell hb6; have hz6 : w.heap.size < w6.heap.size := Nat.lt_of_lt_of_le (by first | assumption | (simp; done) | (simp; omega)) hb6.size; have hy6 : w.heap.size + 1 < w6.heap.size := Nat.lt_of_lt_of_le (by first | assumption | (simp; done) | (simp; omega)) hb6.size
  go_wp2
  go_ret
  exact ⟨rfl, (by repeat (with_reducible first | exact Below.refl _ _ | assumption | (refine ext_next (by assumption) ?_) | apply ext_alloc | apply ext_past | apply ext_drew | apply ext_drewN))⟩

set_option maxRecDepth 100000 in
set_option maxHeartbeats 4000000 in
theorem placeFinds_yah (c : Cfg) (x l a : Int) (w : World) (hL : Lims w) (hc : c.ok) (hx : x < 0 ∨ 4 * c.gr ≤ x) (hl : 0 ≤ l) (hl2 : l < 2 * c.gr) (ha : 2 ≤ a) :
    Calls Tryd.prog 4 #[.agg #[.int .i64 c.co, .int .i64 c.gr, .int .i64 c.se, .int .i64 c.wa, .int .i64 c.de, .int .i64 c.en, .int .i64 c.ba], .int .i64 x, .agg #[.int .i64 l, .int .i64 a]] w fun e w' => e = .returned (.bool true) ∧ Below w.heap.size w w' := by
  have h0 := hL.lt
  have em := mayB_yes hc
  have el := lin_ok hc
  obtain ⟨_, ⟨_, _⟩, _, _, _, _, ⟨_, _⟩⟩ := hc
  go_enter Tryd.func4, Tryd.ntmps4
  go_wp2_with fail; refine (line_no c x _ (by repeat (with_reducible first | assumption | (refine Lims.ext (by assumption) ?_) | apply Lims.alloc | apply Lims.past | apply Lims.drew | apply Lims.drewN)) (by omega)).mono ?_; rintro e w1 ⟨rfl, hb1⟩; obtain ⟨hc1, hf1⟩ := bcell hb1; have hz1 : w.heap.size < w1.heap.size := Nat.lt_of_lt_of_le (by first | assumption | (simp; done) | (simp; omega)) hb1.size; have hy1 : w.heap.size + 1 < w1.heap.size := Nat.lt_of_lt_of_le (by first | assumption | (simp; done) | (simp; omega)) hb1.size
  go_wp2_with fail; refine (word_no c l a _ (by repeat (with_reducible first | assumption | (refine Lims.ext (by assumption) ?_) | apply Lims.alloc | apply Lims.past | apply Lims.drew | apply Lims.drewN)) (by omega)).mono ?_; rintro e w2 ⟨rfl, hb2⟩; obtain ⟨hc2, hf2⟩ := bcell hb2; have hz2 : w.heap.size < w2.heap.size := Nat.lt_of_lt_of_le (by first | assumption | (simp; done) | (simp; omega)) hb2.size; have hy2 : w.heap.size + 1 < w2.heap.size := Nat.lt_of_lt_of_le (by first | assumption | (simp; done) | (simp; omega)) hb2.size
  go_wp2_with fail; refine (gran_ok c l _ (by repeat (with_reducible first | assumption | (refine Lims.ext (by assumption) ?_) | apply Lims.alloc | apply Lims.past | apply Lims.drew | apply Lims.drewN)) (by omega) (by omega)).mono ?_; rintro e w3 ⟨rfl, hb3⟩; obtain ⟨hc3, hf3⟩ := bcell hb3; have hz3 : w.heap.size < w3.heap.size := Nat.lt_of_lt_of_le (by first | assumption | (simp; done) | (simp; omega)) hb3.size; have hy3 : w.heap.size + 1 < w3.heap.size := Nat.lt_of_lt_of_le (by first | assumption | (simp; done) | (simp; omega)) hb3.size
  go_wp2_with fail; refine (bank_ok c l _ (by repeat (with_reducible first | assumption | (refine Lims.ext (by assumption) ?_) | apply Lims.alloc | apply Lims.past | apply Lims.drew | apply Lims.drewN)) (by omega) (by omega) (by omega)).mono ?_; rintro e w4 ⟨rfl, hb4⟩; obtain ⟨hc4, hf4⟩ := bcell hb4; have hz4 : w.heap.size < w4.heap.size := Nat.lt_of_lt_of_le (by first | assumption | (simp; done) | (simp; omega)) hb4.size; have hy4 : w.heap.size + 1 < w4.heap.size := Nat.lt_of_lt_of_le (by first | assumption | (simp; done) | (simp; omega)) hb4.size
  go_wp2_with fail; refine (may_any c _).mono ?_; rintro e w5 ⟨rfl, hb5⟩; obtain ⟨hc5, hf5⟩ := bcell hb5; have hz5 : w.heap.size < w5.heap.size := Nat.lt_of_lt_of_le (by first | assumption | (simp; done) | (simp; omega)) hb5.size; have hy5 : w.heap.size + 1 < w5.heap.size := Nat.lt_of_lt_of_le (by first | assumption | (simp; done) | (simp; omega)) hb5.size
  go_wp2_with fail; refine (refof_no c.gr x _ (by omega) (by omega) (by omega)).mono ?_; rintro e w' ⟨rfl, rfl⟩
  go_wp2_with fail; refine (refgran_ok c.gr l _ (by omega) (by omega) (by omega) (by omega)).mono ?_; rintro e w' ⟨rfl, rfl⟩
  go_wp2_with fail; refine (awake01 _ (by repeat (with_reducible first | assumption | (refine Lims.ext (by assumption) ?_) | apply Lims.alloc | apply Lims.past | apply Lims.drew | apply Lims.drewN))).mono ?_; rintro e w6 ⟨rfl, hb6⟩; obtain ⟨hc6, hf6⟩ := bcell hb6; have hz6 : w.heap.size < w6.heap.size := Nat.lt_of_lt_of_le (by first | assumption | (simp; done) | (simp; omega)) hb6.size; have hy6 : w.heap.size + 1 < w6.heap.size := Nat.lt_of_lt_of_le (by first | assumption | (simp; done) | (simp; omega)) hb6.size
  go_wp2
  go_ret
  exact ⟨rfl, (by repeat (with_reducible first | exact Below.refl _ _ | assumption | (refine ext_next (by assumption) ?_) | apply ext_alloc | apply ext_past | apply ext_drew | apply ext_drewN))⟩

theorem placeFinds_walk (c : Cfg) (x l a : Int) (w : World) (hL : Lims w) :
    Calls Tryd.prog 4 #[.agg #[.int .i64 c.co, .int .i64 c.gr, .int .i64 c.se, .int .i64 c.wa, .int .i64 c.de, .int .i64 c.en, .int .i64 c.ba], .int .i64 x, .agg #[.int .i64 l, .int .i64 a]] w fun e w' => e = .returned (.bool true) ∧ Below w.heap.size w w' := by
  by_cases hc : c.ok
  · by_cases hx : 0 ≤ x ∧ x < 4 * c.gr
    · by_cases hl : 0 ≤ l ∧ l < 2 * c.gr
      · by_cases ha : 0 ≤ a ∧ a < 2
        · exact placeFinds_xin c x l a w hL hc hx.1 hx.2 hl.1 hl.2 ha.1 ha.2
        · by_cases ha2 : a < 0
          · exact placeFinds_xal c x l a w hL hc hx.1 hx.2 hl.1 hl.2 ha2
          · exact placeFinds_xah c x l a w hL hc hx.1 hx.2 hl.1 hl.2 (by omega)
      · exact placeFinds_xno c x l a w hL hc hx.1 hx.2 (by omega)
    · by_cases hl : 0 ≤ l ∧ l < 2 * c.gr
      · by_cases ha : 0 ≤ a ∧ a < 2
        · exact placeFinds_yin c x l a w hL hc (by omega) hl.1 hl.2 ha.1 ha.2
        · by_cases ha2 : a < 0
          · exact placeFinds_yal c x l a w hL hc (by omega) hl.1 hl.2 ha2
          · exact placeFinds_yah c x l a w hL hc (by omega) hl.1 hl.2 (by omega)
      · exact placeFinds_yno c x l a w hL hc (by omega) (by omega)
  · exact placeFinds_bad c x l a w hL hc

end Go.Proofs.YtnbdaffbmpbfjaaDoor
