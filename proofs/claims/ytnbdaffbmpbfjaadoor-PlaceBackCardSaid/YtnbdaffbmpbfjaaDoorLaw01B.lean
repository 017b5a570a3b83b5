/- What this text holds: what the document's answer for layer 1 finds, and the chapter's example. Condition: the table of limits holds what its initialiser lays. -/
import Derived.Test.YtnbdaffbmpbfjaaDoorPlaceB
import Derived.Test.YtnbdaffbmpbfjaaDoorLaw01
namespace Go.Proofs.YtnbdaffbmpbfjaaDoor
open Go.RowKit

/-- donjonref01.Of: a word that is there. -/
theorem refof_ok (g x : Int) (w : World) (hg : 1 ≤ g) (hg2 : g ≤ 16) (hx : 0 ≤ x) (hx2 : x < 4 * g) :
    Calls Tryd.prog 22 #[.int .i64 g, .int .i64 x] w fun e w' => e = .returned (.tuple #[.int .i64 (x / 2), .int .i64 (x % 2), .bool true]) ∧ w = w' := by
  go_enter Tryd.func22, Tryd.ntmps22
  go_wp2
  go_loop [7, 8] (fun n l => ∃ k : Nat, (k : Int) ≤ x / 2 ∧ l = .int .i64 k ∧ n = .int .i64 (2 * k)) (fun _ l => (32 - intOf l).toNat)
  case atStart => exact ⟨0, by omega, rfl, rfl⟩
  case round =>
    obtain ⟨k, hk, rfl, rfl⟩ := hrel
    by_cases h1 : x = 2 * k
    · have h1t : ((2 * (k : Int)) == x) = true := by rw [beq_iff_eq]; omega
      have e1 : x / 2 = k := by omega
      have e2 : x % 2 = 0 := by omega
      clear h1
      go_wp2
      refine wp_loop_rounds 1 ?_
      rw [rounds_succ]
      go_wp2
      go_ret3
      first | (simp; done) | (simp; omega)
    · have h1f : ((2 * (k : Int)) == x) = false := by rw [beq_eq_false_iff_ne]; omega
      by_cases h2 : x = 2 * k + 1
      · have h2t : ((2 * (k : Int) + 1) == x) = true := by rw [beq_iff_eq]; omega
        have e1 : x / 2 = k := by omega
        have e2 : x % 2 = 1 := by omega
        clear h1 h2
        go_wp2
        refine wp_loop_rounds 2 ?_
        rw [rounds_succ]
        go_wp2
        rw [rounds_succ]
        go_wp2
        go_ret3
        first | (simp; done) | (simp; omega)
      · have h2f : ((2 * (k : Int) + 1) == x) = false := by rw [beq_eq_false_iff_ne]; omega
        go_wp2
        refine wp_loop_rounds 3 ?_
        rw [rounds_succ]
        go_wp2
        rw [rounds_succ]
        go_wp2
        rw [rounds_succ]
        go_wp2
        go_round
        case rel => exact ⟨k + 1, by omega, by go_num, by go_num⟩
        case measure => simp [intOf]; omega

/-- donjonref01.Of: a word that is not there. -/
theorem refof_no (g x : Int) (w : World) (hg : 1 ≤ g) (hg2 : g ≤ 16) (hx : x < 0 ∨ 4 * g ≤ x) :
    Calls Tryd.prog 22 #[.int .i64 g, .int .i64 x] w fun e w' => e = .returned (.tuple #[.int .i64 0, .int .i64 0, .bool false]) ∧ w = w' := by
  go_enter Tryd.func22, Tryd.ntmps22
  go_wp2
  go_loop [7, 8] (fun n l => ∃ k : Nat, (k : Int) ≤ 2 * g ∧ l = .int .i64 k ∧ n = .int .i64 (2 * k)) (fun _ l => (33 - intOf l).toNat)
  case atStart => exact ⟨0, by omega, rfl, rfl⟩
  case round =>
    obtain ⟨k, hk, rfl, rfl⟩ := hrel
    by_cases h0 : (k : Int) < 2 * g
    · have h1f : ((2 * (k : Int)) == x) = false := by rw [beq_eq_false_iff_ne]; omega
      have h2f : ((2 * (k : Int) + 1) == x) = false := by rw [beq_eq_false_iff_ne]; omega
      go_wp2
      refine wp_loop_rounds 3 ?_
      rw [rounds_succ]
      go_wp2
      rw [rounds_succ]
      go_wp2
      rw [rounds_succ]
      go_wp2
      go_round
      case rel => exact ⟨k + 1, by omega, by go_num, by go_num⟩
      case measure => simp [intOf]; omega
    · go_wp2
      go_ret3
      first | (simp; done) | (simp; omega)

/-- donjonref01.Granule: a line that is there. -/
theorem refgran_ok (g x : Int) (w : World) (hg : 1 ≤ g) (hg2 : g ≤ 16) (hx : 0 ≤ x) (hx2 : x < 2 * g) :
    Calls Tryd.prog 23 #[.int .i64 g, .int .i64 x] w fun e w' => e = .returned (.int .i64 (x / 2)) ∧ w = w' := by
  go_enter Tryd.func23, Tryd.ntmps23
  go_wp2
  go_loop [5, 6] (fun n l => ∃ k : Nat, (k : Int) ≤ x / 2 ∧ l = .int .i64 k ∧ n = .int .i64 (2 * k)) (fun _ l => (32 - intOf l).toNat)
  case atStart => exact ⟨0, by omega, rfl, rfl⟩
  case round =>
    obtain ⟨k, hk, rfl, rfl⟩ := hrel
    by_cases h1 : x = 2 * k
    · have h1t : ((2 * (k : Int)) == x) = true := by rw [beq_iff_eq]; omega
      have e1 : x / 2 = k := by omega
      clear h1
      go_wp2
      refine wp_loop_rounds 1 ?_
      rw [rounds_succ]
      go_wp2
      go_ret
      first | (simp; done) | (simp; omega)
    · have h1f : ((2 * (k : Int)) == x) = false := by rw [beq_eq_false_iff_ne]; omega
      by_cases h2 : x = 2 * k + 1
      · have h2t : ((2 * (k : Int) + 1) == x) = true := by rw [beq_iff_eq]; omega
        have e1 : x / 2 = k := by omega
        clear h1 h2
        go_wp2
        refine wp_loop_rounds 2 ?_
        rw [rounds_succ]
        go_wp2
        rw [rounds_succ]
        go_wp2
        go_ret
        first | (simp; done) | (simp; omega)
      · have h2f : ((2 * (k : Int) + 1) == x) = false := by rw [beq_eq_false_iff_ne]; omega
        go_wp2
        refine wp_loop_rounds 3 ?_
        rw [rounds_succ]
        go_wp2
        rw [rounds_succ]
        go_wp2
        rw [rounds_succ]
        go_wp2
        go_round
        case rel => exact ⟨k + 1, by omega, by go_num, by go_num⟩
        case measure => simp [intOf]; omega

/-- donjonref01.Granule: a line that is not there. -/
theorem refgran_no (g x : Int) (w : World) (hg : 1 ≤ g) (hg2 : g ≤ 16) (hx : x < 0 ∨ 2 * g ≤ x) :
    Calls Tryd.prog 23 #[.int .i64 g, .int .i64 x] w fun e w' => e = .returned (.int .i64 (-1)) ∧ w = w' := by
  go_enter Tryd.func23, Tryd.ntmps23
  go_wp2
  go_loop [5, 6] (fun n l => ∃ k : Nat, (k : Int) ≤ g ∧ l = .int .i64 k ∧ n = .int .i64 (2 * k)) (fun _ l => (33 - intOf l).toNat)
  case atStart => exact ⟨0, by omega, rfl, rfl⟩
  case round =>
    obtain ⟨k, hk, rfl, rfl⟩ := hrel
    by_cases h0 : (k : Int) < g
    · have h1f : ((2 * (k : Int)) == x) = false := by rw [beq_eq_false_iff_ne]; omega
      have h2f : ((2 * (k : Int) + 1) == x) = false := by rw [beq_eq_false_iff_ne]; omega
      go_wp2
      refine wp_loop_rounds 3 ?_
      rw [rounds_succ]
      go_wp2
      rw [rounds_succ]
      go_wp2
      rw [rounds_succ]
      go_wp2
      go_round
      case rel => exact ⟨k + 1, by omega, by go_num, by go_num⟩
      case measure => simp [intOf]; omega
    · go_wp2
      go_ret
      first | (simp; done) | (simp; omega)

theorem ex_line (w : World) (hL : Lims w) : Calls Tryd.prog 18 #[.agg #[.int .i64 1, .int .i64 4, .int .i64 1, .int .i64 1, .int .i64 1, .int .i64 1, .int .i64 3], .int .i64 7] w fun e w' => e = .returned (.tuple #[.int .i64 3, .int .i64 1, .int .i64 0]) ∧ Below w.heap.size w w' := by
  have el : lin ⟨1, 4, 1, 1, 1, 1, 3⟩ = 8 := by decide
  have h := line_ok ⟨1, 4, 1, 1, 1, 1, 3⟩ 7 w hL (by omega) (by omega)
  exact h
theorem ex_gran (w : World) (hL : Lims w) : Calls Tryd.prog 20 #[.agg #[.int .i64 1, .int .i64 4, .int .i64 1, .int .i64 1, .int .i64 1, .int .i64 1, .int .i64 3], .int .i64 3] w fun e w' => e = .returned (.tuple #[.int .i64 1, .int .i64 0]) ∧ Below w.heap.size w w' := by
  have el : lin ⟨1, 4, 1, 1, 1, 1, 3⟩ = 8 := by decide
  have h := gran_ok ⟨1, 4, 1, 1, 1, 1, 3⟩ 3 w hL (by omega) (by omega)
  exact h
theorem ex_bank (w : World) (hL : Lims w) : Calls Tryd.prog 21 #[.agg #[.int .i64 1, .int .i64 4, .int .i64 1, .int .i64 1, .int .i64 1, .int .i64 1, .int .i64 3], .int .i64 5] w fun e w' => e = .returned (.tuple #[.int .i64 2, .int .i64 0]) ∧ Below w.heap.size w w' := by
  have el : lin ⟨1, 4, 1, 1, 1, 1, 3⟩ = 8 := by decide
  have h := bank_ok ⟨1, 4, 1, 1, 1, 1, 3⟩ 5 w hL (by omega) (by omega) (by decide)
  exact h
theorem ex_words (w : World) (hL : Lims w) : Calls Tryd.prog 15 #[.agg #[.int .i64 1, .int .i64 4, .int .i64 1, .int .i64 1, .int .i64 1, .int .i64 1, .int .i64 3]] w fun e w' => e = .returned (.int .i64 16) ∧ Below w.heap.size w w' := by
  have el : lin ⟨1, 4, 1, 1, 1, 1, 3⟩ = 8 := by decide
  have h := words_any ⟨1, 4, 1, 1, 1, 1, 3⟩ w hL
  rw [el] at h
  exact h
theorem ex_lines (w : World) (hL : Lims w) : Calls Tryd.prog 16 #[.agg #[.int .i64 1, .int .i64 4, .int .i64 1, .int .i64 1, .int .i64 1, .int .i64 1, .int .i64 3]] w fun e w' => e = .returned (.int .i64 8) ∧ Below w.heap.size w w' := by
  have el : lin ⟨1, 4, 1, 1, 1, 1, 3⟩ = 8 := by decide
  have h := lines_any ⟨1, 4, 1, 1, 1, 1, 3⟩ w hL
  rw [el] at h
  exact h
/-- The chapter's example. -/
theorem awake01 (w : World) (hL : Lims w) :
    Calls Tryd.prog 17 #[] w fun e w' => e = .returned (.bool true) ∧ Below w.heap.size w w' := by
  have h0 := hL.lt
  go_enter Tryd.func17, Tryd.ntmps17
  go_wp2_with fail
  refine (ex_line _ (by repeat (with_reducible first | assumption | (refine Lims.ext (by assumption) ?_) | apply Lims.alloc | apply Lims.past | apply Lims.drew | apply Lims.drewN))).mono ?_; rintro e w1 ⟨rfl, hb1⟩; obtain ⟨hc1, hf1⟩ := bcell hb1; have hz1 : w.heap.size < w1.heap.size := Nat.lt_of_lt_of_le (by first | assumption | (simp; done) | (simp; omega)) hb1.size
  go_wp2_with fail
  refine (ex_gran _ (by repeat (with_reducible first | assumption | (refine Lims.ext (by assumption) ?_) | apply Lims.alloc | apply Lims.past | apply Lims.drew | apply Lims.drewN))).mono ?_; rintro e w2 ⟨rfl, hb2⟩; obtain ⟨hc2, hf2⟩ := bcell hb2; have hz2 : w.heap.size < w2.heap.size := Nat.lt_of_lt_of_le (by first | assumption | (simp; done) | (simp; omega)) hb2.size
  go_wp2_with fail
  refine (ex_bank _ (by repeat (with_reducible first | assumption | (refine Lims.ext (by assumption) ?_) | apply Lims.alloc | apply Lims.past | apply Lims.drew | apply Lims.drewN))).mono ?_; rintro e w3 ⟨rfl, hb3⟩; obtain ⟨hc3, hf3⟩ := bcell hb3; have hz3 : w.heap.size < w3.heap.size := Nat.lt_of_lt_of_le (by first | assumption | (simp; done) | (simp; omega)) hb3.size
  go_wp2_with fail
  refine (ex_words _ (by repeat (with_reducible first | assumption | (refine Lims.ext (by assumption) ?_) | apply Lims.alloc | apply Lims.past | apply Lims.drew | apply Lims.drewN))).mono ?_; rintro e w4 ⟨rfl, hb4⟩; obtain ⟨hc4, hf4⟩ := bcell hb4; have hz4 : w.heap.size < w4.heap.size := Nat.lt_of_lt_of_le (by first | assumption | (simp; done) | (simp; omega)) hb4.size
  go_wp2_with fail
  refine (ex_lines _ (by repeat (with_reducible first | assumption | (refine Lims.ext (by assumption) ?_) | apply Lims.alloc | apply Lims.past | apply Lims.drew | apply Lims.drewN))).mono ?_; rintro e w5 ⟨rfl, hb5⟩; obtain ⟨hc5, hf5⟩ := bcell hb5; have hz5 : w.heap.size < w5.heap.size := Nat.lt_of_lt_of_le (by first | assumption | (simp; done) | (simp; omega)) hb5.size
  go_wp2
  go_ret
  exact ⟨rfl, (by repeat (with_reducible first | exact Below.refl _ _ | assumption | (refine ext_next (by assumption) ?_) | apply ext_alloc | apply ext_past | apply ext_drew | apply ext_drewN))⟩

end Go.Proofs.YtnbdaffbmpbfjaaDoor
