/- What this text holds: what the functions of package place answer, and that they make memory at most. Condition: the table of limits holds what its initialiser lays. -/
import Derived.Test.YtkfnjpmigifomaaDoorKit
namespace Go.Proofs.YtkfnjpmigifomaaDoor
open Go.RowKit

/-- A configuration's numbers. -/
structure Cfg where
  co : Int
  gr : Int
  se : Int
  wa : Int
  de : Int
  en : Int
  ba : Int
def okAt (x m : Int) : Prop := 1 ≤ x ∧ x ≤ m
def Cfg.ok (c : Cfg) : Prop := okAt c.co 4 ∧ okAt c.gr 16 ∧ okAt c.se 8 ∧ okAt c.wa 4 ∧ okAt c.de 16 ∧ okAt c.en 8 ∧ okAt c.ba 4
instance (c : Cfg) : Decidable c.ok := by unfold Cfg.ok okAt; infer_instance
def preOk (k : Nat) (c : Cfg) : Prop := (0 < k → okAt c.co 4) ∧ (1 < k → okAt c.gr 16) ∧ (2 < k → okAt c.se 8) ∧ (3 < k → okAt c.wa 4) ∧ (4 < k → okAt c.de 16) ∧ (5 < k → okAt c.en 8) ∧ (6 < k → okAt c.ba 4)
/-- What Check answers. -/
def chk (c : Cfg) : Int := if c.ok then 0 else 10
theorem chk_ok {c : Cfg} (h : c.ok) : chk c = 0 := by unfold chk; rw [if_pos h]
theorem chk_no {c : Cfg} (h : ¬ c.ok) : chk c = 10 := by unfold chk; rw [if_neg h]
/-- How many lines, and words, there are. -/
def lin (c : Cfg) : Int := if c.ok then 2 * c.gr else 0
theorem lin_ok {c : Cfg} (h : c.ok) : lin c = 2 * c.gr := by unfold lin; rw [if_pos h]
theorem lin_no {c : Cfg} (h : ¬ c.ok) : lin c = 0 := by unfold lin; rw [if_neg h]
theorem lin_bd (c : Cfg) : 0 ≤ lin c ∧ lin c ≤ 32 := by
  unfold lin
  split
  · rename_i h; obtain ⟨_, ⟨_, _⟩, _⟩ := h; omega
  · omega

/-- The table of limits, as its initialiser lays it. -/
def Lims (w : World) : Prop := ∃ t fr, w.heap[(1 : Nat)]? = some (.cells #[.int .i64 4, .int .i64 16, .int .i64 8, .int .i64 4, .int .i64 16, .int .i64 8, .int .i64 4] t fr)
theorem Lims.lt {w : World} (h : Lims w) : 1 < w.heap.size := by obtain ⟨_, _, h⟩ := h; exact (Array.getElem?_eq_some_iff.1 h).1
theorem Lims.below {B : Nat} {w w' : World} (h : Lims w) (hb : Below B w w') (hB : 1 < B) : Lims w' := by
  obtain ⟨t, fr, h⟩ := h; exact ⟨t, fr, (hb.block _ hB).trans h⟩
theorem Lims.alloc {w : World} (h : Lims w) (o : Obj) : Lims (w.alloc o) := by
  have hl := h.lt
  obtain ⟨t, fr, h⟩ := h; exact ⟨t, fr, (Below.heap_alloc w o _ hl).trans h⟩
theorem Lims.drew {w : World} (h : Lims w) : Lims w.drew := h
theorem Lims.drewN {w : World} (h : Lims w) (n : Nat) : Lims (w.drewN n) := h
theorem Lims.ext {w w' : World} (hb : Below w.heap.size w w') (h : Lims w) : Lims w' := h.below hb h.lt
theorem Lims.past {w : World} (h : Lims w) (p : Past w) : Lims p.val := h.below p.below h.lt

set_option maxHeartbeats 2000000 in
theorem check_any (c : Cfg) (w : World) (hL : Lims w) :
    Calls Tryd.prog 58 #[.agg #[.int .i64 c.co, .int .i64 c.gr, .int .i64 c.se, .int .i64 c.wa, .int .i64 c.de, .int .i64 c.en, .int .i64 c.ba]] w fun x w' => x = .returned (.int .i64 (chk c)) ∧ Below w.heap.size w w' := by
  have h0 := hL.lt
  obtain ⟨t, fr, hg⟩ := hL
  have H := Lib.hid hg
  clear hg
  have i0 : ∀ w, (Instr.index 95 (.agg #[.int .i64 4, .int .i64 16, .int .i64 8, .int .i64 4, .int .i64 16, .int .i64 8, .int .i64 4]) (.int .i64 0)).run Tryd.prog w = .ok (.int .i64 4) w := fun _ => by kernel_rfl
  have i1 : ∀ w, (Instr.index 95 (.agg #[.int .i64 4, .int .i64 16, .int .i64 8, .int .i64 4, .int .i64 16, .int .i64 8, .int .i64 4]) (.int .i64 1)).run Tryd.prog w = .ok (.int .i64 16) w := fun _ => by kernel_rfl
  have i2 : ∀ w, (Instr.index 95 (.agg #[.int .i64 4, .int .i64 16, .int .i64 8, .int .i64 4, .int .i64 16, .int .i64 8, .int .i64 4]) (.int .i64 2)).run Tryd.prog w = .ok (.int .i64 8) w := fun _ => by kernel_rfl
  have i3 : ∀ w, (Instr.index 95 (.agg #[.int .i64 4, .int .i64 16, .int .i64 8, .int .i64 4, .int .i64 16, .int .i64 8, .int .i64 4]) (.int .i64 3)).run Tryd.prog w = .ok (.int .i64 4) w := fun _ => by kernel_rfl
  have i4 : ∀ w, (Instr.index 95 (.agg #[.int .i64 4, .int .i64 16, .int .i64 8, .int .i64 4, .int .i64 16, .int .i64 8, .int .i64 4]) (.int .i64 4)).run Tryd.prog w = .ok (.int .i64 16) w := fun _ => by kernel_rfl
  have i5 : ∀ w, (Instr.index 95 (.agg #[.int .i64 4, .int .i64 16, .int .i64 8, .int .i64 4, .int .i64 16, .int .i64 8, .int .i64 4]) (.int .i64 5)).run Tryd.prog w = .ok (.int .i64 8) w := fun _ => by kernel_rfl
  have i6 : ∀ w, (Instr.index 95 (.agg #[.int .i64 4, .int .i64 16, .int .i64 8, .int .i64 4, .int .i64 16, .int .i64 8, .int .i64 4]) (.int .i64 6)).run Tryd.prog w = .ok (.int .i64 4) w := fun _ => by kernel_rfl
  go_enter Tryd.func58, Tryd.ntmps58
  go_wp2
  go_step3
  go_wp2
  go_step3
  go_wp2_with (refine wpList_load_row rfl 95 _ rfl 1 rfl t _ fr _ ((Below.heap_alloc _ _ 1 (by first | (simp; done) | (simp; omega))).trans ((Below.heap_alloc _ _ 1 h0).trans H.out)) Tryd.underlying95 rfl (by kernel_rfl) ?_)
  go_loopg [4, 23] 7 (fun n er i wr => ∃ k : Nat, k ≤ 7 ∧ n = 7 - k ∧ i = .int .i64 k ∧ er = .int .i64 0 ∧ preOk k c ∧ wr = (w.alloc (.cells #[.int .i64 c.co, .int .i64 c.gr, .int .i64 c.se, .int .i64 c.wa, .int .i64 c.de, .int .i64 c.en, .int .i64 c.ba] 23)).alloc (.cells #[.int .i64 c.co, .int .i64 c.gr, .int .i64 c.se, .int .i64 c.wa, .int .i64 c.de, .int .i64 c.en, .int .i64 c.ba] 95))
  case atStart => exact ⟨0, by omega, rfl, rfl, rfl, by simp [preOk], rfl⟩
  case round =>
    obtain ⟨k, hk, rfl, rfl, rfl, hp, rfl⟩ := hrel
    have HP := Lib.hid hp
    clear hp
    match k, hk with
    | 0, _ =>
      go_wp2
      all_goals first
        | (go_roundg 6
           case measure => decide
           case rel =>
             have hp := HP.out
             simp only [preOk, okAt] at hp
             refine ⟨1, ?_, rfl, rfl, rfl, ?_, rfl⟩
             · decide
             · simp [preOk, okAt] <;> omega)
        | ((try rw [Exit.noGoto_ret])
           go_ret
           have hp := HP.out
           simp only [preOk, okAt] at hp
           exact ⟨ret_int (by rw [chk_no]; simp only [Cfg.ok, okAt]; omega), (by repeat (with_reducible first | exact Below.refl _ _ | assumption | (refine ext_next (by assumption) ?_) | apply ext_alloc | apply ext_past | apply ext_drew | apply ext_drewN))⟩)
    | 1, _ =>
      go_wp2
      all_goals first
        | (go_roundg 5
           case measure => decide
           case rel =>
             have hp := HP.out
             simp only [preOk, okAt] at hp
             refine ⟨2, ?_, rfl, rfl, rfl, ?_, rfl⟩
             · decide
             · simp [preOk, okAt] <;> omega)
        | ((try rw [Exit.noGoto_ret])
           go_ret
           have hp := HP.out
           simp only [preOk, okAt] at hp
           exact ⟨ret_int (by rw [chk_no]; simp only [Cfg.ok, okAt]; omega), (by repeat (with_reducible first | exact Below.refl _ _ | assumption | (refine ext_next (by assumption) ?_) | apply ext_alloc | apply ext_past | apply ext_drew | apply ext_drewN))⟩)
    | 2, _ =>
      go_wp2
      all_goals first
        | (go_roundg 4
           case measure => decide
           case rel =>
             have hp := HP.out
             simp only [preOk, okAt] at hp
             refine ⟨3, ?_, rfl, rfl, rfl, ?_, rfl⟩
             · decide
             · simp [preOk, okAt] <;> omega)
        | ((try rw [Exit.noGoto_ret])
           go_ret
           have hp := HP.out
           simp only [preOk, okAt] at hp
           exact ⟨ret_int (by rw [chk_no]; simp only [Cfg.ok, okAt]; omega), (by repeat (with_reducible first | exact Below.refl _ _ | assumption | (refine ext_next (by assumption) ?_) | apply ext_alloc | apply ext_past | apply ext_drew | apply ext_drewN))⟩)
    | 3, _ =>
      go_wp2
      all_goals first
        | (go_roundg 3
           case measure => decide
           case rel =>
             have hp := HP.out
             simp only [preOk, okAt] at hp
             refine ⟨4, ?_, rfl, rfl, rfl, ?_, rfl⟩
             · decide
             · simp [preOk, okAt] <;> omega)
        | ((try rw [Exit.noGoto_ret])
           go_ret
           have hp := HP.out
           simp only [preOk, okAt] at hp
           exact ⟨ret_int (by rw [chk_no]; simp only [Cfg.ok, okAt]; omega), (by repeat (with_reducible first | exact Below.refl _ _ | assumption | (refine ext_next (by assumption) ?_) | apply ext_alloc | apply ext_past | apply ext_drew | apply ext_drewN))⟩)
    | 4, _ =>
      go_wp2
      all_goals first
        | (go_roundg 2
           case measure => decide
           case rel =>
             have hp := HP.out
             simp only [preOk, okAt] at hp
             refine ⟨5, ?_, rfl, rfl, rfl, ?_, rfl⟩
             · decide
             · simp [preOk, okAt] <;> omega)
        | ((try rw [Exit.noGoto_ret])
           go_ret
           have hp := HP.out
           simp only [preOk, okAt] at hp
           exact ⟨ret_int (by rw [chk_no]; simp only [Cfg.ok, okAt]; omega), (by repeat (with_reducible first | exact Below.refl _ _ | assumption | (refine ext_next (by assumption) ?_) | apply ext_alloc | apply ext_past | apply ext_drew | apply ext_drewN))⟩)
    | 5, _ =>
      go_wp2
      all_goals first
        | (go_roundg 1
           case measure => decide
           case rel =>
             have hp := HP.out
             simp only [preOk, okAt] at hp
             refine ⟨6, ?_, rfl, rfl, rfl, ?_, rfl⟩
             · decide
             · simp [preOk, okAt] <;> omega)
        | ((try rw [Exit.noGoto_ret])
           go_ret
           have hp := HP.out
           simp only [preOk, okAt] at hp
           exact ⟨ret_int (by rw [chk_no]; simp only [Cfg.ok, okAt]; omega), (by repeat (with_reducible first | exact Below.refl _ _ | assumption | (refine ext_next (by assumption) ?_) | apply ext_alloc | apply ext_past | apply ext_drew | apply ext_drewN))⟩)
    | 6, _ =>
      go_wp2
      all_goals first
        | (go_roundg 0
           case measure => decide
           case rel =>
             have hp := HP.out
             simp only [preOk, okAt] at hp
             refine ⟨7, ?_, rfl, rfl, rfl, ?_, rfl⟩
             · decide
             · simp [preOk, okAt] <;> omega)
        | ((try rw [Exit.noGoto_ret])
           go_ret
           have hp := HP.out
           simp only [preOk, okAt] at hp
           exact ⟨ret_int (by rw [chk_no]; simp only [Cfg.ok, okAt]; omega), (by repeat (with_reducible first | exact Below.refl _ _ | assumption | (refine ext_next (by assumption) ?_) | apply ext_alloc | apply ext_past | apply ext_drew | apply ext_drewN))⟩)
    | 7, _ =>
      go_wp2
      all_goals (try rw [Exit.noGoto_ret])
      go_ret
      have hp := HP.out
      simp [preOk] at hp
      exact ⟨ret_int (by rw [chk_ok]; exact hp), (by repeat (with_reducible first | exact Below.refl _ _ | assumption | (refine ext_next (by assumption) ?_) | apply ext_alloc | apply ext_past | apply ext_drew | apply ext_drewN))⟩

set_option maxHeartbeats 400000 in
theorem lines_any (c : Cfg) (w : World) (hL : Lims w) :
    Calls Tryd.prog 17 #[.agg #[.int .i64 c.co, .int .i64 c.gr, .int .i64 c.se, .int .i64 c.wa, .int .i64 c.de, .int .i64 c.en, .int .i64 c.ba]] w fun x w' => x = .returned (.int .i64 (lin c)) ∧ Below w.heap.size w w' := by
  have h0 := hL.lt
  by_cases hc : c.ok
  · have e := chk_ok hc
    have el := Lib.hid (lin_ok hc)
    obtain ⟨_, ⟨_, _⟩, _⟩ := hc
    go_enter Tryd.func17, Tryd.ntmps17
    go_wp2_with (go_at_call 58; refine (check_any c _ (by repeat (with_reducible first | assumption | (refine Lims.ext (by assumption) ?_) | apply Lims.alloc | apply Lims.past | apply Lims.drew | apply Lims.drewN))).mono ?_; rintro x w1 ⟨rfl, hb⟩; obtain ⟨hc1, hf1⟩ := bcell hb)
    go_ret
    exact ⟨ret_int (by rw [el.out]; omega), (Below.refl _ _).alloc (Nat.le_refl _) _ |>.trans (hb.mono (by simp))⟩
  · have e := chk_no hc
    have el := Lib.hid (lin_no hc)
    go_enter Tryd.func17, Tryd.ntmps17
    go_wp2_with (go_at_call 58; refine (check_any c _ (by repeat (with_reducible first | assumption | (refine Lims.ext (by assumption) ?_) | apply Lims.alloc | apply Lims.past | apply Lims.drew | apply Lims.drewN))).mono ?_; rintro x w1 ⟨rfl, hb⟩)
    go_ret
    exact ⟨ret_int (by rw [el.out]), (Below.refl _ _).alloc (Nat.le_refl _) _ |>.trans (hb.mono (by simp))⟩

theorem words_any (c : Cfg) (w : World) (hL : Lims w) :
    Calls Tryd.prog 21 #[.agg #[.int .i64 c.co, .int .i64 c.gr, .int .i64 c.se, .int .i64 c.wa, .int .i64 c.de, .int .i64 c.en, .int .i64 c.ba]] w fun x w' => x = .returned (.int .i64 (lin c * 2)) ∧ Below w.heap.size w w' := by
  have h0 := hL.lt
  obtain ⟨h1, h2⟩ := lin_bd c
  go_enter Tryd.func21, Tryd.ntmps21
  go_wp2_with (go_at_call 17; refine (lines_any c _ (by repeat (with_reducible first | assumption | (refine Lims.ext (by assumption) ?_) | apply Lims.alloc | apply Lims.past | apply Lims.drew | apply Lims.drewN))).mono ?_; rintro x w1 ⟨rfl, hb⟩)
  go_ret
  exact ⟨ret_int (by omega), (Below.refl _ _).alloc (Nat.le_refl _) _ |>.trans (hb.mono (by simp))⟩

end Go.Proofs.YtkfnjpmigifomaaDoor
