/- What this text holds: what a call of the monitor answers. No condition. -/
import Derived.Test.YtjggnhcdnfmmeaaJdB
namespace Go.Proofs.Ytjggnhcdnfmmeaa
open Go.RowKit

set_option maxRecDepth 100000 in
theorem judge_w (call wo ow tw : Int) (w : World) (_h0 : inB 0 3 wo = false) : Calls Try.prog 34 #[.int .i64 call, .int .i64 wo, .int .i64 ow, .int .i64 tw] w fun e w' => e = .returned (.tuple #[.int .i64 0, .bool false, .int .i64 10]) ∧ Below w.heap.size w w' := by
  go_enter Try.func34, Try.ntmps34
  go_wp2_with (go_at_call 51; refine (within_new _ _ _ _ _ _ (by simp)).mono ?_; rintro e w' ⟨rfl, hw⟩; rw [hw]; clear hw)
  go_ret3
  exact ⟨rfl, (by repeat (with_reducible first | exact Below.refl _ _ | assumption | (refine ext_next (by assumption) ?_) | apply ext_alloc | apply ext_past | apply ext_drew | apply ext_drewN))⟩

set_option maxRecDepth 100000 in
theorem judge_o (call wo ow tw : Int) (w : World) (_h0 : inB 0 3 wo = true) (_h1 : inB 0 4 ow = false) : Calls Try.prog 34 #[.int .i64 call, .int .i64 wo, .int .i64 ow, .int .i64 tw] w fun e w' => e = .returned (.tuple #[.int .i64 0, .bool false, .int .i64 10]) ∧ Below w.heap.size w w' := by
  go_enter Try.func34, Try.ntmps34
  go_wp2_with (go_at_call 51; refine (within_new _ _ _ _ _ _ (by simp)).mono ?_; rintro e w' ⟨rfl, hw⟩; rw [hw]; clear hw)
  go_ret3
  exact ⟨rfl, (by repeat (with_reducible first | exact Below.refl _ _ | assumption | (refine ext_next (by assumption) ?_) | apply ext_alloc | apply ext_past | apply ext_drew | apply ext_drewN))⟩

set_option maxRecDepth 100000 in
theorem judge_d1 (call wo ow tw : Int) (w : World) (_h0 : inB 0 3 wo = true) (_h1 : inB 0 4 ow = true) (_h2 : (call == 1) = true) (_h3 : (wo != 0) = true) : Calls Try.prog 34 #[.int .i64 call, .int .i64 wo, .int .i64 ow, .int .i64 tw] w fun e w' => e = .returned (.tuple #[.int .i64 0, .bool false, .int .i64 18]) ∧ Below w.heap.size w w' := by
  go_enter Try.func34, Try.ntmps34
  go_wp2_with (go_at_call 51; refine (within_new _ _ _ _ _ _ (by simp)).mono ?_; rintro e w' ⟨rfl, hw⟩; rw [hw]; clear hw)
  go_ret3
  exact ⟨rfl, (by repeat (with_reducible first | exact Below.refl _ _ | assumption | (refine ext_next (by assumption) ?_) | apply ext_alloc | apply ext_past | apply ext_drew | apply ext_drewN))⟩

set_option maxRecDepth 100000 in
theorem judge_d2 (call wo ow tw : Int) (w : World) (_h0 : inB 0 3 wo = true) (_h1 : inB 0 4 ow = true) (_h2 : (call == 1) = true) (_h3 : (wo != 0) = false) (_h4 : (ow != 0) = true) : Calls Try.prog 34 #[.int .i64 call, .int .i64 wo, .int .i64 ow, .int .i64 tw] w fun e w' => e = .returned (.tuple #[.int .i64 0, .bool false, .int .i64 16]) ∧ Below w.heap.size w w' := by
  go_enter Try.func34, Try.ntmps34
  go_wp2_with (go_at_call 51; refine (within_new _ _ _ _ _ _ (by simp)).mono ?_; rintro e w' ⟨rfl, hw⟩; rw [hw]; clear hw)
  go_ret3
  exact ⟨rfl, (by repeat (with_reducible first | exact Below.refl _ _ | assumption | (refine ext_next (by assumption) ?_) | apply ext_alloc | apply ext_past | apply ext_drew | apply ext_drewN))⟩

set_option maxRecDepth 100000 in
theorem judge_d3 (call wo ow tw : Int) (w : World) (_h0 : inB 0 3 wo = true) (_h1 : inB 0 4 ow = true) (_h2 : (call == 1) = true) (_h3 : (wo != 0) = false) (_h4 : (ow != 0) = false) (_h5 : inB 1 3 tw = false) : Calls Try.prog 34 #[.int .i64 call, .int .i64 wo, .int .i64 ow, .int .i64 tw] w fun e w' => e = .returned (.tuple #[.int .i64 0, .bool false, .int .i64 1]) ∧ Below w.heap.size w w' := by
  go_enter Try.func34, Try.ntmps34
  go_wp2_with (go_at_call 51; refine (within_new _ _ _ _ _ _ (by simp)).mono ?_; rintro e w' ⟨rfl, hw⟩; rw [hw]; clear hw)
  go_ret3
  exact ⟨rfl, (by repeat (with_reducible first | exact Below.refl _ _ | assumption | (refine ext_next (by assumption) ?_) | apply ext_alloc | apply ext_past | apply ext_drew | apply ext_drewN))⟩

set_option maxRecDepth 100000 in
theorem judge_d4 (call wo ow tw : Int) (w : World) (_h0 : inB 0 3 wo = true) (_h1 : inB 0 4 ow = true) (_h2 : (call == 1) = true) (_h3 : (wo != 0) = false) (_h4 : (ow != 0) = false) (_h5 : inB 1 3 tw = true) : Calls Try.prog 34 #[.int .i64 call, .int .i64 wo, .int .i64 ow, .int .i64 tw] w fun e w' => e = .returned (.tuple #[.int .i64 tw, .bool true, .int .i64 0]) ∧ Below w.heap.size w w' := by
  go_enter Try.func34, Try.ntmps34
  go_wp2_with (go_at_call 51; refine (within_new _ _ _ _ _ _ (by simp)).mono ?_; rintro e w' ⟨rfl, hw⟩; rw [hw]; clear hw)
  go_ret3
  exact ⟨rfl, (by repeat (with_reducible first | exact Below.refl _ _ | assumption | (refine ext_next (by assumption) ?_) | apply ext_alloc | apply ext_past | apply ext_drew | apply ext_drewN))⟩

set_option maxRecDepth 100000 in
theorem judge_r1 (call wo ow tw : Int) (w : World) (_h0 : inB 0 3 wo = true) (_h1 : inB 0 4 ow = true) (_h2 : (call == 1) = false) (_h3 : (call == 2) = true) (_h4 : (ow == 0) = true) : Calls Try.prog 34 #[.int .i64 call, .int .i64 wo, .int .i64 ow, .int .i64 tw] w fun e w' => e = .returned (.tuple #[.int .i64 0, .bool false, .int .i64 16]) ∧ Below w.heap.size w w' := by
  go_enter Try.func34, Try.ntmps34
  go_wp2_with (go_at_call 51; refine (within_new _ _ _ _ _ _ (by simp)).mono ?_; rintro e w' ⟨rfl, hw⟩; rw [hw]; clear hw)
  go_ret3
  exact ⟨rfl, (by repeat (with_reducible first | exact Below.refl _ _ | assumption | (refine ext_next (by assumption) ?_) | apply ext_alloc | apply ext_past | apply ext_drew | apply ext_drewN))⟩

set_option maxRecDepth 100000 in
theorem judge_r2 (call wo ow tw : Int) (w : World) (_h0 : inB 0 3 wo = true) (_h1 : inB 0 4 ow = true) (_h2 : (call == 1) = false) (_h3 : (call == 2) = true) (_h4 : (ow == 0) = false) (_h5 : (wo != 0) = true) (_h6 : (wo != ow) = true) : Calls Try.prog 34 #[.int .i64 call, .int .i64 wo, .int .i64 ow, .int .i64 tw] w fun e w' => e = .returned (.tuple #[.int .i64 0, .bool false, .int .i64 18]) ∧ Below w.heap.size w w' := by
  go_enter Try.func34, Try.ntmps34
  go_wp2_with (go_at_call 51; refine (within_new _ _ _ _ _ _ (by simp)).mono ?_; rintro e w' ⟨rfl, hw⟩; rw [hw]; clear hw)
  go_ret3
  exact ⟨rfl, (by repeat (with_reducible first | exact Below.refl _ _ | assumption | (refine ext_next (by assumption) ?_) | apply ext_alloc | apply ext_past | apply ext_drew | apply ext_drewN))⟩

set_option maxRecDepth 100000 in
theorem judge_r3 (call wo ow tw : Int) (w : World) (_h0 : inB 0 3 wo = true) (_h1 : inB 0 4 ow = true) (_h2 : (call == 1) = false) (_h3 : (call == 2) = true) (_h4 : (ow == 0) = false) (_h5 : (wo != 0) = false) : Calls Try.prog 34 #[.int .i64 call, .int .i64 wo, .int .i64 ow, .int .i64 tw] w fun e w' => e = .returned (.tuple #[.int .i64 0, .bool true, .int .i64 0]) ∧ Below w.heap.size w w' := by
  go_enter Try.func34, Try.ntmps34
  go_wp2_with (go_at_call 51; refine (within_new _ _ _ _ _ _ (by simp)).mono ?_; rintro e w' ⟨rfl, hw⟩; rw [hw]; clear hw)
  go_ret3
  exact ⟨rfl, (by repeat (with_reducible first | exact Below.refl _ _ | assumption | (refine ext_next (by assumption) ?_) | apply ext_alloc | apply ext_past | apply ext_drew | apply ext_drewN))⟩

set_option maxRecDepth 100000 in
theorem judge_r4 (call wo ow tw : Int) (w : World) (_h0 : inB 0 3 wo = true) (_h1 : inB 0 4 ow = true) (_h2 : (call == 1) = false) (_h3 : (call == 2) = true) (_h4 : (ow == 0) = false) (_h5 : (wo != 0) = true) (_h6 : (wo != ow) = false) : Calls Try.prog 34 #[.int .i64 call, .int .i64 wo, .int .i64 ow, .int .i64 tw] w fun e w' => e = .returned (.tuple #[.int .i64 0, .bool true, .int .i64 0]) ∧ Below w.heap.size w w' := by
  go_enter Try.func34, Try.ntmps34
  go_wp2_with (go_at_call 51; refine (within_new _ _ _ _ _ _ (by simp)).mono ?_; rintro e w' ⟨rfl, hw⟩; rw [hw]; clear hw)
  go_ret3
  exact ⟨rfl, (by repeat (with_reducible first | exact Below.refl _ _ | assumption | (refine ext_next (by assumption) ?_) | apply ext_alloc | apply ext_past | apply ext_drew | apply ext_drewN))⟩

set_option maxRecDepth 100000 in
theorem judge_t1 (call wo ow tw : Int) (w : World) (_h0 : inB 0 3 wo = true) (_h1 : inB 0 4 ow = true) (_h2 : (call == 1) = false) (_h3 : (call == 2) = false) (_h4 : (call == 3) = true) (_h5 : (wo == 0) = true) : Calls Try.prog 34 #[.int .i64 call, .int .i64 wo, .int .i64 ow, .int .i64 tw] w fun e w' => e = .returned (.tuple #[.int .i64 0, .bool false, .int .i64 18]) ∧ Below w.heap.size w w' := by
  go_enter Try.func34, Try.ntmps34
  go_wp2_with (go_at_call 51; refine (within_new _ _ _ _ _ _ (by simp)).mono ?_; rintro e w' ⟨rfl, hw⟩; rw [hw]; clear hw)
  go_ret3
  exact ⟨rfl, (by repeat (with_reducible first | exact Below.refl _ _ | assumption | (refine ext_next (by assumption) ?_) | apply ext_alloc | apply ext_past | apply ext_drew | apply ext_drewN))⟩

set_option maxRecDepth 100000 in
theorem judge_t2 (call wo ow tw : Int) (w : World) (_h0 : inB 0 3 wo = true) (_h1 : inB 0 4 ow = true) (_h2 : (call == 1) = false) (_h3 : (call == 2) = false) (_h4 : (call == 3) = true) (_h5 : (wo == 0) = false) (_h6 : (wo != ow) = true) : Calls Try.prog 34 #[.int .i64 call, .int .i64 wo, .int .i64 ow, .int .i64 tw] w fun e w' => e = .returned (.tuple #[.int .i64 0, .bool false, .int .i64 18]) ∧ Below w.heap.size w w' := by
  go_enter Try.func34, Try.ntmps34
  go_wp2_with (go_at_call 51; refine (within_new _ _ _ _ _ _ (by simp)).mono ?_; rintro e w' ⟨rfl, hw⟩; rw [hw]; clear hw)
  go_ret3
  exact ⟨rfl, (by repeat (with_reducible first | exact Below.refl _ _ | assumption | (refine ext_next (by assumption) ?_) | apply ext_alloc | apply ext_past | apply ext_drew | apply ext_drewN))⟩

set_option maxRecDepth 100000 in
theorem judge_t3 (call wo ow tw : Int) (w : World) (_h0 : inB 0 3 wo = true) (_h1 : inB 0 4 ow = true) (_h2 : (call == 1) = false) (_h3 : (call == 2) = false) (_h4 : (call == 3) = true) (_h5 : (wo == 0) = false) (_h6 : (wo != ow) = false) (_h7 : inB 1 3 tw = false) : Calls Try.prog 34 #[.int .i64 call, .int .i64 wo, .int .i64 ow, .int .i64 tw] w fun e w' => e = .returned (.tuple #[.int .i64 0, .bool false, .int .i64 1]) ∧ Below w.heap.size w w' := by
  go_enter Try.func34, Try.ntmps34
  go_wp2_with (go_at_call 51; refine (within_new _ _ _ _ _ _ (by simp)).mono ?_; rintro e w' ⟨rfl, hw⟩; rw [hw]; clear hw)
  go_ret3
  exact ⟨rfl, (by repeat (with_reducible first | exact Below.refl _ _ | assumption | (refine ext_next (by assumption) ?_) | apply ext_alloc | apply ext_past | apply ext_drew | apply ext_drewN))⟩

set_option maxRecDepth 100000 in
theorem judge_t4 (call wo ow tw : Int) (w : World) (_h0 : inB 0 3 wo = true) (_h1 : inB 0 4 ow = true) (_h2 : (call == 1) = false) (_h3 : (call == 2) = false) (_h4 : (call == 3) = true) (_h5 : (wo == 0) = false) (_h6 : (wo != ow) = false) (_h7 : inB 1 3 tw = true) (_h8 : (tw == ow) = true) : Calls Try.prog 34 #[.int .i64 call, .int .i64 wo, .int .i64 ow, .int .i64 tw] w fun e w' => e = .returned (.tuple #[.int .i64 0, .bool false, .int .i64 1]) ∧ Below w.heap.size w w' := by
  go_enter Try.func34, Try.ntmps34
  go_wp2_with (go_at_call 51; refine (within_new _ _ _ _ _ _ (by simp)).mono ?_; rintro e w' ⟨rfl, hw⟩; rw [hw]; clear hw)
  go_ret3
  exact ⟨rfl, (by repeat (with_reducible first | exact Below.refl _ _ | assumption | (refine ext_next (by assumption) ?_) | apply ext_alloc | apply ext_past | apply ext_drew | apply ext_drewN))⟩

set_option maxRecDepth 100000 in
theorem judge_t5 (call wo ow tw : Int) (w : World) (_h0 : inB 0 3 wo = true) (_h1 : inB 0 4 ow = true) (_h2 : (call == 1) = false) (_h3 : (call == 2) = false) (_h4 : (call == 3) = true) (_h5 : (wo == 0) = false) (_h6 : (wo != ow) = false) (_h7 : inB 1 3 tw = true) (_h8 : (tw == ow) = false) : Calls Try.prog 34 #[.int .i64 call, .int .i64 wo, .int .i64 ow, .int .i64 tw] w fun e w' => e = .returned (.tuple #[.int .i64 tw, .bool true, .int .i64 0]) ∧ Below w.heap.size w w' := by
  go_enter Try.func34, Try.ntmps34
  go_wp2_with (go_at_call 51; refine (within_new _ _ _ _ _ _ (by simp)).mono ?_; rintro e w' ⟨rfl, hw⟩; rw [hw]; clear hw)
  go_ret3
  exact ⟨rfl, (by repeat (with_reducible first | exact Below.refl _ _ | assumption | (refine ext_next (by assumption) ?_) | apply ext_alloc | apply ext_past | apply ext_drew | apply ext_drewN))⟩

set_option maxRecDepth 100000 in
theorem judge_s1 (call wo ow tw : Int) (w : World) (_h0 : inB 0 3 wo = true) (_h1 : inB 0 4 ow = true) (_h2 : (call == 1) = false) (_h3 : (call == 2) = false) (_h4 : (call == 3) = false) (_h5 : (call == 4) = true) (_h6 : (ow == 4) = true) : Calls Try.prog 34 #[.int .i64 call, .int .i64 wo, .int .i64 ow, .int .i64 tw] w fun e w' => e = .returned (.tuple #[.int .i64 0, .bool false, .int .i64 16]) ∧ Below w.heap.size w w' := by
  go_enter Try.func34, Try.ntmps34
  go_wp2_with (go_at_call 51; refine (within_new _ _ _ _ _ _ (by simp)).mono ?_; rintro e w' ⟨rfl, hw⟩; rw [hw]; clear hw)
  go_ret3
  exact ⟨rfl, (by repeat (with_reducible first | exact Below.refl _ _ | assumption | (refine ext_next (by assumption) ?_) | apply ext_alloc | apply ext_past | apply ext_drew | apply ext_drewN))⟩

set_option maxRecDepth 100000 in
theorem judge_s2 (call wo ow tw : Int) (w : World) (_h0 : inB 0 3 wo = true) (_h1 : inB 0 4 ow = true) (_h2 : (call == 1) = false) (_h3 : (call == 2) = false) (_h4 : (call == 3) = false) (_h5 : (call == 4) = true) (_h6 : (ow == 4) = false) (_h7 : (wo != ow) = true) : Calls Try.prog 34 #[.int .i64 call, .int .i64 wo, .int .i64 ow, .int .i64 tw] w fun e w' => e = .returned (.tuple #[.int .i64 0, .bool false, .int .i64 18]) ∧ Below w.heap.size w w' := by
  go_enter Try.func34, Try.ntmps34
  go_wp2_with (go_at_call 51; refine (within_new _ _ _ _ _ _ (by simp)).mono ?_; rintro e w' ⟨rfl, hw⟩; rw [hw]; clear hw)
  go_ret3
  exact ⟨rfl, (by repeat (with_reducible first | exact Below.refl _ _ | assumption | (refine ext_next (by assumption) ?_) | apply ext_alloc | apply ext_past | apply ext_drew | apply ext_drewN))⟩

set_option maxRecDepth 100000 in
theorem judge_s3 (call wo ow tw : Int) (w : World) (_h0 : inB 0 3 wo = true) (_h1 : inB 0 4 ow = true) (_h2 : (call == 1) = false) (_h3 : (call == 2) = false) (_h4 : (call == 3) = false) (_h5 : (call == 4) = true) (_h6 : (ow == 4) = false) (_h7 : (wo != ow) = false) : Calls Try.prog 34 #[.int .i64 call, .int .i64 wo, .int .i64 ow, .int .i64 tw] w fun e w' => e = .returned (.tuple #[.int .i64 4, .bool false, .int .i64 0]) ∧ Below w.heap.size w w' := by
  go_enter Try.func34, Try.ntmps34
  go_wp2_with (go_at_call 51; refine (within_new _ _ _ _ _ _ (by simp)).mono ?_; rintro e w' ⟨rfl, hw⟩; rw [hw]; clear hw)
  go_ret3
  exact ⟨rfl, (by repeat (with_reducible first | exact Below.refl _ _ | assumption | (refine ext_next (by assumption) ?_) | apply ext_alloc | apply ext_past | apply ext_drew | apply ext_drewN))⟩

set_option maxRecDepth 100000 in
theorem judge_n (call wo ow tw : Int) (w : World) (_h0 : inB 0 3 wo = true) (_h1 : inB 0 4 ow = true) (_h2 : (call == 1) = false) (_h3 : (call == 2) = false) (_h4 : (call == 3) = false) (_h5 : (call == 4) = false) : Calls Try.prog 34 #[.int .i64 call, .int .i64 wo, .int .i64 ow, .int .i64 tw] w fun e w' => e = .returned (.tuple #[.int .i64 0, .bool false, .int .i64 15]) ∧ Below w.heap.size w w' := by
  go_enter Try.func34, Try.ntmps34
  go_wp2_with (go_at_call 51; refine (within_new _ _ _ _ _ _ (by simp)).mono ?_; rintro e w' ⟨rfl, hw⟩; rw [hw]; clear hw)
  go_ret3
  exact ⟨rfl, (by repeat (with_reducible first | exact Below.refl _ _ | assumption | (refine ext_next (by assumption) ?_) | apply ext_alloc | apply ext_past | apply ext_drew | apply ext_drewN))⟩


/-- All of them. -/
theorem judge_any (call wo ow tw : Int) (w : World) : Calls Try.prog 34 #[.int .i64 call, .int .i64 wo, .int .i64 ow, .int .i64 tw] w fun e w' => e = .returned (.tuple #[.int .i64 (judge call wo ow tw).1, .bool (judge call wo ow tw).2.1, .int .i64 (judge call wo ow tw).2.2]) ∧ Below w.heap.size w w' := by
  by_cases hw : wo < 0 ∨ 3 < wo
  · have e : judge call wo ow tw = (0, false, 10) := by unfold judge; rw [if_pos (by omega)]
    rw [e]; exact judge_w call wo ow tw w (inB_no hw)
  have a0 := inB_yes (l := 0) (m := 3) (x := wo) (by omega)
  by_cases ho : ow < 0 ∨ 4 < ow
  · have e : judge call wo ow tw = (0, false, 10) := by unfold judge; rw [if_pos (by omega)]
    rw [e]; exact judge_o call wo ow tw w a0 (inB_no ho)
  have a1 := inB_yes (l := 0) (m := 4) (x := ow) (by omega)
  have hn : ¬ (wo < 0 ∨ 3 < wo ∨ ow < 0 ∨ 4 < ow) := by omega
  have ne : ∀ {x y : Int}, x ≠ y → (x == y) = false := fun h => by simpa using h
  have eq : ∀ {x y : Int}, x = y → (x == y) = true := fun h => by simpa using h
  have nE : ∀ {x y : Int}, x ≠ y → (x != y) = true := fun h => by simpa using h
  have eQ : ∀ {x y : Int}, x = y → (x != y) = false := fun h => by simpa using h
  by_cases c1 : call = 1
  · by_cases h1 : wo = 0
    · by_cases h2 : ow = 0
      · by_cases h3 : tw < 1 ∨ 3 < tw
        · have e : judge call wo ow tw = (0, false, 1) := by unfold judge; rw [if_neg hn, if_pos c1, if_neg (by omega), if_neg (by omega), if_pos h3]
          rw [e]; exact judge_d3 call wo ow tw w a0 a1 (eq c1) (eQ h1) (eQ h2) (inB_no h3)
        · have e : judge call wo ow tw = (tw, true, 0) := by unfold judge; rw [if_neg hn, if_pos c1, if_neg (by omega), if_neg (by omega), if_neg h3]
          rw [e]; exact judge_d4 call wo ow tw w a0 a1 (eq c1) (eQ h1) (eQ h2) (inB_yes (by omega))
      · have e : judge call wo ow tw = (0, false, 16) := by unfold judge; rw [if_neg hn, if_pos c1, if_neg (by omega), if_pos h2]
        rw [e]; exact judge_d2 call wo ow tw w a0 a1 (eq c1) (eQ h1) (nE h2)
    · have e : judge call wo ow tw = (0, false, 18) := by unfold judge; rw [if_neg hn, if_pos c1, if_pos h1]
      rw [e]; exact judge_d1 call wo ow tw w a0 a1 (eq c1) (nE h1)
  by_cases c2 : call = 2
  · by_cases h1 : ow = 0
    · have e : judge call wo ow tw = (0, false, 16) := by unfold judge; rw [if_neg hn, if_neg c1, if_pos c2, if_pos h1]
      rw [e]; exact judge_r1 call wo ow tw w a0 a1 (ne c1) (eq c2) (eq h1)
    · by_cases h2 : wo = 0
      · have e : judge call wo ow tw = (0, true, 0) := by unfold judge; rw [if_neg hn, if_neg c1, if_pos c2, if_neg h1, if_neg (by omega)]
        rw [e]; exact judge_r3 call wo ow tw w a0 a1 (ne c1) (eq c2) (ne h1) (eQ h2)
      · by_cases h3 : wo = ow
        · have e : judge call wo ow tw = (0, true, 0) := by unfold judge; rw [if_neg hn, if_neg c1, if_pos c2, if_neg h1, if_neg (by omega)]
          rw [e]; exact judge_r4 call wo ow tw w a0 a1 (ne c1) (eq c2) (ne h1) (nE h2) (eQ h3)
        · have e : judge call wo ow tw = (0, false, 18) := by unfold judge; rw [if_neg hn, if_neg c1, if_pos c2, if_neg h1, if_pos ⟨h2, h3⟩]
          rw [e]; exact judge_r2 call wo ow tw w a0 a1 (ne c1) (eq c2) (ne h1) (nE h2) (nE h3)
  by_cases c3 : call = 3
  · by_cases h1 : wo = 0
    · have e : judge call wo ow tw = (0, false, 18) := by unfold judge; rw [if_neg hn, if_neg c1, if_neg c2, if_pos c3, if_pos (.inl h1)]
      rw [e]; exact judge_t1 call wo ow tw w a0 a1 (ne c1) (ne c2) (eq c3) (eq h1)
    · by_cases h2 : wo = ow
      · by_cases h3 : tw < 1 ∨ 3 < tw
        · have e : judge call wo ow tw = (0, false, 1) := by unfold judge; rw [if_neg hn, if_neg c1, if_neg c2, if_pos c3, if_neg (by omega), if_pos (by omega)]
          rw [e]; exact judge_t3 call wo ow tw w a0 a1 (ne c1) (ne c2) (eq c3) (ne h1) (eQ h2) (inB_no h3)
        · by_cases h4 : tw = ow
          · have e : judge call wo ow tw = (0, false, 1) := by unfold judge; rw [if_neg hn, if_neg c1, if_neg c2, if_pos c3, if_neg (by omega), if_pos (by omega)]
            rw [e]; exact judge_t4 call wo ow tw w a0 a1 (ne c1) (ne c2) (eq c3) (ne h1) (eQ h2) (inB_yes (by omega)) (eq h4)
          · have e : judge call wo ow tw = (tw, true, 0) := by unfold judge; rw [if_neg hn, if_neg c1, if_neg c2, if_pos c3, if_neg (by omega), if_neg (by omega)]
            rw [e]; exact judge_t5 call wo ow tw w a0 a1 (ne c1) (ne c2) (eq c3) (ne h1) (eQ h2) (inB_yes (by omega)) (ne h4)
      · have e : judge call wo ow tw = (0, false, 18) := by unfold judge; rw [if_neg hn, if_neg c1, if_neg c2, if_pos c3, if_pos (.inr h2)]
        rw [e]; exact judge_t2 call wo ow tw w a0 a1 (ne c1) (ne c2) (eq c3) (ne h1) (nE h2)
  by_cases c4 : call = 4
  · by_cases h1 : ow = 4
    · have e : judge call wo ow tw = (0, false, 16) := by unfold judge; rw [if_neg hn, if_neg c1, if_neg c2, if_neg c3, if_pos c4, if_pos h1]
      rw [e]; exact judge_s1 call wo ow tw w a0 a1 (ne c1) (ne c2) (ne c3) (eq c4) (eq h1)
    · by_cases h2 : wo = ow
      · have e : judge call wo ow tw = (4, false, 0) := by unfold judge; rw [if_neg hn, if_neg c1, if_neg c2, if_neg c3, if_pos c4, if_neg h1, if_neg (by omega)]
        rw [e]; exact judge_s3 call wo ow tw w a0 a1 (ne c1) (ne c2) (ne c3) (eq c4) (ne h1) (eQ h2)
      · have e : judge call wo ow tw = (0, false, 18) := by unfold judge; rw [if_neg hn, if_neg c1, if_neg c2, if_neg c3, if_pos c4, if_neg h1, if_pos h2]
        rw [e]; exact judge_s2 call wo ow tw w a0 a1 (ne c1) (ne c2) (ne c3) (eq c4) (ne h1) (nE h2)
  have e : judge call wo ow tw = (0, false, 15) := by unfold judge; rw [if_neg hn, if_neg c1, if_neg c2, if_neg c3, if_neg c4]
  rw [e]; exact judge_n call wo ow tw w a0 a1 (ne c1) (ne c2) (ne c3) (ne c4)

end Go.Proofs.Ytjggnhcdnfmmeaa
