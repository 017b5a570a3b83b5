/- What this text holds: what the document's answer for layer 1 computes. -/
import Derived.Test.YtkfnjpmigifomaaDoorPlace
namespace Go.Proofs.YtkfnjpmigifomaaDoor
open Go.RowKit

def mayB (c : Cfg) : Bool := decide c.ok
theorem mayB_yes {c : Cfg} (h : c.ok) : mayB c = true := by simp [mayB, h]
theorem mayB_no {c : Cfg} (h : ¬ c.ok) : mayB c = false := by simp [mayB, h]

set_option maxHeartbeats 4000000 in
theorem refmay_any (c : Cfg) (w : World) :
    Calls Tryd.prog 57 #[.agg #[.int .i64 c.co, .int .i64 c.gr, .int .i64 c.se, .int .i64 c.wa, .int .i64 c.de, .int .i64 c.en, .int .i64 c.ba]] w fun x w' => x = .returned (.bool (mayB c)) ∧ Below w.heap.size w w' := by
  go_enter Tryd.func57, Tryd.ntmps57
  go_wp2
  go_loopg [4] 7 (fun n i wr => ∃ k : Nat, k ≤ 7 ∧ n = 7 - k ∧ i = .int .i64 k ∧ preOk k c ∧ Below ((w.alloc (.cells #[.int .i64 c.co, .int .i64 c.gr, .int .i64 c.se, .int .i64 c.wa, .int .i64 c.de, .int .i64 c.en, .int .i64 c.ba] 95)).alloc (.cells #[.int .i64 4, .int .i64 16, .int .i64 8, .int .i64 4, .int .i64 16, .int .i64 8, .int .i64 4] 3)).heap.size ((w.alloc (.cells #[.int .i64 c.co, .int .i64 c.gr, .int .i64 c.se, .int .i64 c.wa, .int .i64 c.de, .int .i64 c.en, .int .i64 c.ba] 95)).alloc (.cells #[.int .i64 4, .int .i64 16, .int .i64 8, .int .i64 4, .int .i64 16, .int .i64 8, .int .i64 4] 3)) wr)
  case atStart => exact ⟨0, by omega, rfl, rfl, by simp [preOk], Below.refl _ _⟩
  case round =>
    obtain ⟨k, hk, rfl, rfl, hp, hb⟩ := hrel
    obtain ⟨hc1, hf1⟩ := bcell hb
    have hz := hb.size
    simp only [World.size_alloc] at hz
    have hz0 : w.heap.size < wr.heap.size := by omega
    have hz1 : w.heap.size + 1 < wr.heap.size := by omega
    have HP := Lib.hid hp
    clear hp
    match k, hk with
    | 0, _ =>
      by_cases h1 : c.co < 1
      · have h1t : decide (c.co < 1) = true := by simpa using h1
        go_wp2
        refine region_past (by kernel_rfl) (by kernel_rfl) ?_; (repeat (go_big_quiet_step (fail))); refine wpQuiet_nil ?_; rintro _ ⟨p, rfl⟩
        go_wp2
        go_ret
        exact ⟨ret_bool (by rw [mayB_no]; have hp := HP.out; simp only [Cfg.ok, okAt]; omega), (by repeat (with_reducible first | exact Below.refl _ _ | assumption | (refine ext_next (by assumption) ?_) | apply ext_alloc | apply ext_past | apply ext_drew | apply ext_drewN))⟩
      · have h1f : decide (c.co < 1) = false := by simpa using h1
        by_cases h2 : 4 < c.co
        · have h2t : decide (4 < c.co) = true := by simpa using h2
          go_wp2
          refine region_past (by kernel_rfl) (by kernel_rfl) ?_; (repeat (go_big_quiet_step (fail))); refine wpQuiet_nil ?_; rintro _ ⟨p, rfl⟩
          go_wp2
          go_ret
          exact ⟨ret_bool (by rw [mayB_no]; have hp := HP.out; simp only [Cfg.ok, okAt]; omega), (by repeat (with_reducible first | exact Below.refl _ _ | assumption | (refine ext_next (by assumption) ?_) | apply ext_alloc | apply ext_past | apply ext_drew | apply ext_drewN))⟩
        · have h2f : decide (4 < c.co) = false := by simpa using h2
          go_wp2
          refine region_past (by kernel_rfl) (by kernel_rfl) ?_; (repeat (go_big_quiet_step (fail))); refine wpQuiet_nil ?_; rintro _ ⟨p, rfl⟩
          go_wp2
          go_roundg 6
          case measure => decide
          case rel =>
            have hp := HP.out
            simp only [preOk, okAt] at hp
            refine ⟨1, ?_, rfl, rfl, ?_, (by repeat (with_reducible first | exact Below.refl _ _ | assumption | (refine ext_next (by assumption) ?_) | apply ext_alloc | apply ext_past | apply ext_drew | apply ext_drewN))⟩
            · decide
            · simp [preOk, okAt] <;> omega
    | 1, _ =>
      by_cases h1 : c.gr < 1
      · have h1t : decide (c.gr < 1) = true := by simpa using h1
        go_wp2
        refine region_past (by kernel_rfl) (by kernel_rfl) ?_; (repeat (go_big_quiet_step (fail))); refine wpQuiet_nil ?_; rintro _ ⟨p, rfl⟩
        go_wp2
        go_ret
        exact ⟨ret_bool (by rw [mayB_no]; have hp := HP.out; simp only [Cfg.ok, okAt]; omega), (by repeat (with_reducible first | exact Below.refl _ _ | assumption | (refine ext_next (by assumption) ?_) | apply ext_alloc | apply ext_past | apply ext_drew | apply ext_drewN))⟩
      · have h1f : decide (c.gr < 1) = false := by simpa using h1
        by_cases h2 : 16 < c.gr
        · have h2t : decide (16 < c.gr) = true := by simpa using h2
          go_wp2
          refine region_past (by kernel_rfl) (by kernel_rfl) ?_; (repeat (go_big_quiet_step (fail))); refine wpQuiet_nil ?_; rintro _ ⟨p, rfl⟩
          go_wp2
          go_ret
          exact ⟨ret_bool (by rw [mayB_no]; have hp := HP.out; simp only [Cfg.ok, okAt]; omega), (by repeat (with_reducible first | exact Below.refl _ _ | assumption | (refine ext_next (by assumption) ?_) | apply ext_alloc | apply ext_past | apply ext_drew | apply ext_drewN))⟩
        · have h2f : decide (16 < c.gr) = false := by simpa using h2
          go_wp2
          refine region_past (by kernel_rfl) (by kernel_rfl) ?_; (repeat (go_big_quiet_step (fail))); refine wpQuiet_nil ?_; rintro _ ⟨p, rfl⟩
          go_wp2
          go_roundg 5
          case measure => decide
          case rel =>
            have hp := HP.out
            simp only [preOk, okAt] at hp
            refine ⟨2, ?_, rfl, rfl, ?_, (by repeat (with_reducible first | exact Below.refl _ _ | assumption | (refine ext_next (by assumption) ?_) | apply ext_alloc | apply ext_past | apply ext_drew | apply ext_drewN))⟩
            · decide
            · simp [preOk, okAt] <;> omega
    | 2, _ =>
      by_cases h1 : c.se < 1
      · have h1t : decide (c.se < 1) = true := by simpa using h1
        go_wp2
        refine region_past (by kernel_rfl) (by kernel_rfl) ?_; (repeat (go_big_quiet_step (fail))); refine wpQuiet_nil ?_; rintro _ ⟨p, rfl⟩
        go_wp2
        go_ret
        exact ⟨ret_bool (by rw [mayB_no]; have hp := HP.out; simp only [Cfg.ok, okAt]; omega), (by repeat (with_reducible first | exact Below.refl _ _ | assumption | (refine ext_next (by assumption) ?_) | apply ext_alloc | apply ext_past | apply ext_drew | apply ext_drewN))⟩
      · have h1f : decide (c.se < 1) = false := by simpa using h1
        by_cases h2 : 8 < c.se
        · have h2t : decide (8 < c.se) = true := by simpa using h2
          go_wp2
          refine region_past (by kernel_rfl) (by kernel_rfl) ?_; (repeat (go_big_quiet_step (fail))); refine wpQuiet_nil ?_; rintro _ ⟨p, rfl⟩
          go_wp2
          go_ret
          exact ⟨ret_bool (by rw [mayB_no]; have hp := HP.out; simp only [Cfg.ok, okAt]; omega), (by repeat (with_reducible first | exact Below.refl _ _ | assumption | (refine ext_next (by assumption) ?_) | apply ext_alloc | apply ext_past | apply ext_drew | apply ext_drewN))⟩
        · have h2f : decide (8 < c.se) = false := by simpa using h2
          go_wp2
          refine region_past (by kernel_rfl) (by kernel_rfl) ?_; (repeat (go_big_quiet_step (fail))); refine wpQuiet_nil ?_; rintro _ ⟨p, rfl⟩
          go_wp2
          go_roundg 4
          case measure => decide
          case rel =>
            have hp := HP.out
            simp only [preOk, okAt] at hp
            refine ⟨3, ?_, rfl, rfl, ?_, (by repeat (with_reducible first | exact Below.refl _ _ | assumption | (refine ext_next (by assumption) ?_) | apply ext_alloc | apply ext_past | apply ext_drew | apply ext_drewN))⟩
            · decide
            · simp [preOk, okAt] <;> omega
    | 3, _ =>
      by_cases h1 : c.wa < 1
      · have h1t : decide (c.wa < 1) = true := by simpa using h1
        go_wp2
        refine region_past (by kernel_rfl) (by kernel_rfl) ?_; (repeat (go_big_quiet_step (fail))); refine wpQuiet_nil ?_; rintro _ ⟨p, rfl⟩
        go_wp2
        go_ret
        exact ⟨ret_bool (by rw [mayB_no]; have hp := HP.out; simp only [Cfg.ok, okAt]; omega), (by repeat (with_reducible first | exact Below.refl _ _ | assumption | (refine ext_next (by assumption) ?_) | apply ext_alloc | apply ext_past | apply ext_drew | apply ext_drewN))⟩
      · have h1f : decide (c.wa < 1) = false := by simpa using h1
        by_cases h2 : 4 < c.wa
        · have h2t : decide (4 < c.wa) = true := by simpa using h2
          go_wp2
          refine region_past (by kernel_rfl) (by kernel_rfl) ?_; (repeat (go_big_quiet_step (fail))); refine wpQuiet_nil ?_; rintro _ ⟨p, rfl⟩
          go_wp2
          go_ret
          exact ⟨ret_bool (by rw [mayB_no]; have hp := HP.out; simp only [Cfg.ok, okAt]; omega), (by repeat (with_reducible first | exact Below.refl _ _ | assumption | (refine ext_next (by assumption) ?_) | apply ext_alloc | apply ext_past | apply ext_drew | apply ext_drewN))⟩
        · have h2f : decide (4 < c.wa) = false := by simpa using h2
          go_wp2
          refine region_past (by kernel_rfl) (by kernel_rfl) ?_; (repeat (go_big_quiet_step (fail))); refine wpQuiet_nil ?_; rintro _ ⟨p, rfl⟩
          go_wp2
          go_roundg 3
          case measure => decide
          case rel =>
            have hp := HP.out
            simp only [preOk, okAt] at hp
            refine ⟨4, ?_, rfl, rfl, ?_, (by repeat (with_reducible first | exact Below.refl _ _ | assumption | (refine ext_next (by assumption) ?_) | apply ext_alloc | apply ext_past | apply ext_drew | apply ext_drewN))⟩
            · decide
            · simp [preOk, okAt] <;> omega
    | 4, _ =>
      by_cases h1 : c.de < 1
      · have h1t : decide (c.de < 1) = true := by simpa using h1
        go_wp2
        refine region_past (by kernel_rfl) (by kernel_rfl) ?_; (repeat (go_big_quiet_step (fail))); refine wpQuiet_nil ?_; rintro _ ⟨p, rfl⟩
        go_wp2
        go_ret
        exact ⟨ret_bool (by rw [mayB_no]; have hp := HP.out; simp only [Cfg.ok, okAt]; omega), (by repeat (with_reducible first | exact Below.refl _ _ | assumption | (refine ext_next (by assumption) ?_) | apply ext_alloc | apply ext_past | apply ext_drew | apply ext_drewN))⟩
      · have h1f : decide (c.de < 1) = false := by simpa using h1
        by_cases h2 : 16 < c.de
        · have h2t : decide (16 < c.de) = true := by simpa using h2
          go_wp2
          refine region_past (by kernel_rfl) (by kernel_rfl) ?_; (repeat (go_big_quiet_step (fail))); refine wpQuiet_nil ?_; rintro _ ⟨p, rfl⟩
          go_wp2
          go_ret
          exact ⟨ret_bool (by rw [mayB_no]; have hp := HP.out; simp only [Cfg.ok, okAt]; omega), (by repeat (with_reducible first | exact Below.refl _ _ | assumption | (refine ext_next (by assumption) ?_) | apply ext_alloc | apply ext_past | apply ext_drew | apply ext_drewN))⟩
        · have h2f : decide (16 < c.de) = false := by simpa using h2
          go_wp2
          refine region_past (by kernel_rfl) (by kernel_rfl) ?_; (repeat (go_big_quiet_step (fail))); refine wpQuiet_nil ?_; rintro _ ⟨p, rfl⟩
          go_wp2
          go_roundg 2
          case measure => decide
          case rel =>
            have hp := HP.out
            simp only [preOk, okAt] at hp
            refine ⟨5, ?_, rfl, rfl, ?_, (by repeat (with_reducible first | exact Below.refl _ _ | assumption | (refine ext_next (by assumption) ?_) | apply ext_alloc | apply ext_past | apply ext_drew | apply ext_drewN))⟩
            · decide
            · simp [preOk, okAt] <;> omega
    | 5, _ =>
      by_cases h1 : c.en < 1
      · have h1t : decide (c.en < 1) = true := by simpa using h1
        go_wp2
        refine region_past (by kernel_rfl) (by kernel_rfl) ?_; (repeat (go_big_quiet_step (fail))); refine wpQuiet_nil ?_; rintro _ ⟨p, rfl⟩
        go_wp2
        go_ret
        exact ⟨ret_bool (by rw [mayB_no]; have hp := HP.out; simp only [Cfg.ok, okAt]; omega), (by repeat (with_reducible first | exact Below.refl _ _ | assumption | (refine ext_next (by assumption) ?_) | apply ext_alloc | apply ext_past | apply ext_drew | apply ext_drewN))⟩
      · have h1f : decide (c.en < 1) = false := by simpa using h1
        by_cases h2 : 8 < c.en
        · have h2t : decide (8 < c.en) = true := by simpa using h2
          go_wp2
          refine region_past (by kernel_rfl) (by kernel_rfl) ?_; (repeat (go_big_quiet_step (fail))); refine wpQuiet_nil ?_; rintro _ ⟨p, rfl⟩
          go_wp2
          go_ret
          exact ⟨ret_bool (by rw [mayB_no]; have hp := HP.out; simp only [Cfg.ok, okAt]; omega), (by repeat (with_reducible first | exact Below.refl _ _ | assumption | (refine ext_next (by assumption) ?_) | apply ext_alloc | apply ext_past | apply ext_drew | apply ext_drewN))⟩
        · have h2f : decide (8 < c.en) = false := by simpa using h2
          go_wp2
          refine region_past (by kernel_rfl) (by kernel_rfl) ?_; (repeat (go_big_quiet_step (fail))); refine wpQuiet_nil ?_; rintro _ ⟨p, rfl⟩
          go_wp2
          go_roundg 1
          case measure => decide
          case rel =>
            have hp := HP.out
            simp only [preOk, okAt] at hp
            refine ⟨6, ?_, rfl, rfl, ?_, (by repeat (with_reducible first | exact Below.refl _ _ | assumption | (refine ext_next (by assumption) ?_) | apply ext_alloc | apply ext_past | apply ext_drew | apply ext_drewN))⟩
            · decide
            · simp [preOk, okAt] <;> omega
    | 6, _ =>
      by_cases h1 : c.ba < 1
      · have h1t : decide (c.ba < 1) = true := by simpa using h1
        go_wp2
        refine region_past (by kernel_rfl) (by kernel_rfl) ?_; (repeat (go_big_quiet_step (fail))); refine wpQuiet_nil ?_; rintro _ ⟨p, rfl⟩
        go_wp2
        go_ret
        exact ⟨ret_bool (by rw [mayB_no]; have hp := HP.out; simp only [Cfg.ok, okAt]; omega), (by repeat (with_reducible first | exact Below.refl _ _ | assumption | (refine ext_next (by assumption) ?_) | apply ext_alloc | apply ext_past | apply ext_drew | apply ext_drewN))⟩
      · have h1f : decide (c.ba < 1) = false := by simpa using h1
        by_cases h2 : 4 < c.ba
        · have h2t : decide (4 < c.ba) = true := by simpa using h2
          go_wp2
          refine region_past (by kernel_rfl) (by kernel_rfl) ?_; (repeat (go_big_quiet_step (fail))); refine wpQuiet_nil ?_; rintro _ ⟨p, rfl⟩
          go_wp2
          go_ret
          exact ⟨ret_bool (by rw [mayB_no]; have hp := HP.out; simp only [Cfg.ok, okAt]; omega), (by repeat (with_reducible first | exact Below.refl _ _ | assumption | (refine ext_next (by assumption) ?_) | apply ext_alloc | apply ext_past | apply ext_drew | apply ext_drewN))⟩
        · have h2f : decide (4 < c.ba) = false := by simpa using h2
          go_wp2
          refine region_past (by kernel_rfl) (by kernel_rfl) ?_; (repeat (go_big_quiet_step (fail))); refine wpQuiet_nil ?_; rintro _ ⟨p, rfl⟩
          go_wp2
          go_roundg 0
          case measure => decide
          case rel =>
            have hp := HP.out
            simp only [preOk, okAt] at hp
            refine ⟨7, ?_, rfl, rfl, ?_, (by repeat (with_reducible first | exact Below.refl _ _ | assumption | (refine ext_next (by assumption) ?_) | apply ext_alloc | apply ext_past | apply ext_drew | apply ext_drewN))⟩
            · decide
            · simp [preOk, okAt] <;> omega
    | 7, _ =>
      go_wp2
      go_ret
      have hp := HP.out
      simp [preOk] at hp
      exact ⟨ret_bool (by rw [mayB_yes]; exact hp), (by repeat (with_reducible first | exact Below.refl _ _ | assumption | (refine ext_next (by assumption) ?_) | apply ext_alloc | apply ext_past | apply ext_drew | apply ext_drewN))⟩
end Go.Proofs.YtkfnjpmigifomaaDoor
