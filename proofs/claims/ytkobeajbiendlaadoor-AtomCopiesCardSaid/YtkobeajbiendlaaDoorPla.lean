/- What this text holds: what the functions of package place answer, and that they make memory at most. Condition: the table of limits holds what its initialiser lays. What this text holds: where the functions of package place find words and lines. Condition: the table of limits holds what its initialiser lays. What this text holds: the iterator over a granule's lines, as a contract for all loop bodies. Condition: the table of limits holds what its initialiser lays. -/
import Derived.Test.YtkobeajbiendlaaDoorBas
import Derived.RangeFuncNested
import Derived.RangeFuncBound
import Derived.RangeFuncCalls
import Derived.RangeFuncLeaves
import Derived.Shelf.Abstract
import Derived.Shelf.RegionOpen
import Derived.OwnWalkIn
import Derived.TacticsInMore
import Derived.LoopNIn
import Derived.LoopIn
namespace Go.Proofs.YtkobeajbiendlaaDoor
open Go.RowKit

/-- A configuration's numbers. -/
structure Cfg where
  co : Int
  gr : Int
  se : Int
  wa : Int
  de : Int
  en : Int
  ba : Int
def okAt (x m : Int) : Prop := 1 ≤ x ∧ x ≤ m
def Cfg.ok (c : Cfg) : Prop := okAt c.co 4 ∧ okAt c.gr 16 ∧ okAt c.se 8 ∧ okAt c.wa 4 ∧ okAt c.de 16 ∧ okAt c.en 8 ∧ okAt c.ba 4
instance (c : Cfg) : Decidable c.ok := by unfold Cfg.ok okAt; infer_instance
def preOk (k : Nat) (c : Cfg) : Prop := (0 < k → okAt c.co 4) ∧ (1 < k → okAt c.gr 16) ∧ (2 < k → okAt c.se 8) ∧ (3 < k → okAt c.wa 4) ∧ (4 < k → okAt c.de 16) ∧ (5 < k → okAt c.en 8) ∧ (6 < k → okAt c.ba 4)
/-- What Check answers. -/
def chk (c : Cfg) : Int := if c.ok then 0 else 10
theorem chk_ok {c : Cfg} (h : c.ok) : chk c = 0 := by unfold chk; rw [if_pos h]
theorem chk_no {c : Cfg} (h : ¬ c.ok) : chk c = 10 := by unfold chk; rw [if_neg h]
/-- How many lines, and words, there are. -/
def lin (c : Cfg) : Int := if c.ok then 2 * c.gr else 0
theorem lin_ok {c : Cfg} (h : c.ok) : lin c = 2 * c.gr := by unfold lin; rw [if_pos h]
theorem lin_no {c : Cfg} (h : ¬ c.ok) : lin c = 0 := by unfold lin; rw [if_neg h]
theorem lin_bd (c : Cfg) : 0 ≤ lin c ∧ lin c ≤ 32 := by
  unfold lin
  split
  · rename_i h; obtain ⟨_, ⟨_, _⟩, _⟩ := h; omega
  · omega

/-- The table of limits, as its initialiser lays it. -/
def Lims (w : World) : Prop := ∃ t fr, w.heap[(1 : Nat)]? = some (.cells #[.int .i64 4, .int .i64 16, .int .i64 8, .int .i64 4, .int .i64 16, .int .i64 8, .int .i64 4] t fr)
theorem Lims.lt {w : World} (h : Lims w) : 1 < w.heap.size := by obtain ⟨_, _, h⟩ := h; exact (Array.getElem?_eq_some_iff.1 h).1
theorem Lims.below {B : Nat} {w w' : World} (h : Lims w) (hb : Below B w w') (hB : 1 < B) : Lims w' := by
  obtain ⟨t, fr, h⟩ := h; exact ⟨t, fr, (hb.block _ hB).trans h⟩
theorem Lims.alloc {w : World} (h : Lims w) (o : Obj) : Lims (w.alloc o) := by
  have hl := h.lt
  obtain ⟨t, fr, h⟩ := h; exact ⟨t, fr, (Below.heap_alloc w o _ hl).trans h⟩
theorem Lims.drew {w : World} (h : Lims w) : Lims w.drew := h
theorem Lims.drewN {w : World} (h : Lims w) (n : Nat) : Lims (w.drewN n) := h
theorem Lims.ext {w w' : World} (hb : Below w.heap.size w w') (h : Lims w) : Lims w' := h.below hb h.lt
theorem Lims.past {w : World} (h : Lims w) (p : Past w) : Lims p.val := h.below p.below h.lt

set_option maxHeartbeats 2000000 in
theorem check_any (c : Cfg) (w : World) (hL : Lims w) :
    Calls Tryd.prog 75 #[.agg #[.int .i64 c.co, .int .i64 c.gr, .int .i64 c.se, .int .i64 c.wa, .int .i64 c.de, .int .i64 c.en, .int .i64 c.ba]] w fun x w' => x = .returned (.int .i64 (chk c)) ∧ Below w.heap.size w w' := by
  have h0 := hL.lt
  obtain ⟨t, fr, hg⟩ := hL
  have H := Lib.hid hg
  clear hg
  have i0 : ∀ w, (Instr.index 142 (.agg #[.int .i64 4, .int .i64 16, .int .i64 8, .int .i64 4, .int .i64 16, .int .i64 8, .int .i64 4]) (.int .i64 0)).run Tryd.prog w = .ok (.int .i64 4) w := fun _ => by kernel_rfl
  have i1 : ∀ w, (Instr.index 142 (.agg #[.int .i64 4, .int .i64 16, .int .i64 8, .int .i64 4, .int .i64 16, .int .i64 8, .int .i64 4]) (.int .i64 1)).run Tryd.prog w = .ok (.int .i64 16) w := fun _ => by kernel_rfl
  have i2 : ∀ w, (Instr.index 142 (.agg #[.int .i64 4, .int .i64 16, .int .i64 8, .int .i64 4, .int .i64 16, .int .i64 8, .int .i64 4]) (.int .i64 2)).run Tryd.prog w = .ok (.int .i64 8) w := fun _ => by kernel_rfl
  have i3 : ∀ w, (Instr.index 142 (.agg #[.int .i64 4, .int .i64 16, .int .i64 8, .int .i64 4, .int .i64 16, .int .i64 8, .int .i64 4]) (.int .i64 3)).run Tryd.prog w = .ok (.int .i64 4) w := fun _ => by kernel_rfl
  have i4 : ∀ w, (Instr.index 142 (.agg #[.int .i64 4, .int .i64 16, .int .i64 8, .int .i64 4, .int .i64 16, .int .i64 8, .int .i64 4]) (.int .i64 4)).run Tryd.prog w = .ok (.int .i64 16) w := fun _ => by kernel_rfl
  have i5 : ∀ w, (Instr.index 142 (.agg #[.int .i64 4, .int .i64 16, .int .i64 8, .int .i64 4, .int .i64 16, .int .i64 8, .int .i64 4]) (.int .i64 5)).run Tryd.prog w = .ok (.int .i64 8) w := fun _ => by kernel_rfl
  have i6 : ∀ w, (Instr.index 142 (.agg #[.int .i64 4, .int .i64 16, .int .i64 8, .int .i64 4, .int .i64 16, .int .i64 8, .int .i64 4]) (.int .i64 6)).run Tryd.prog w = .ok (.int .i64 4) w := fun _ => by kernel_rfl
  go_enter Tryd.func75, Tryd.ntmps75
  go_wp2
  go_step3
  go_wp2
  go_step3
  go_wp2_with (refine wpList_load_row rfl 142 _ rfl 1 rfl t _ fr _ ((Below.heap_alloc _ _ 1 (by first | (simp; done) | (simp; omega))).trans ((Below.heap_alloc _ _ 1 h0).trans H.out)) Tryd.underlying142 rfl (by kernel_rfl) ?_)
  go_loopg [4, 23] 7 (fun n er i wr => ∃ k : Nat, k ≤ 7 ∧ n = 7 - k ∧ i = .int .i64 k ∧ er = .int .i64 0 ∧ preOk k c ∧ wr = (w.alloc (.cells #[.int .i64 c.co, .int .i64 c.gr, .int .i64 c.se, .int .i64 c.wa, .int .i64 c.de, .int .i64 c.en, .int .i64 c.ba] 65)).alloc (.cells #[.int .i64 c.co, .int .i64 c.gr, .int .i64 c.se, .int .i64 c.wa, .int .i64 c.de, .int .i64 c.en, .int .i64 c.ba] 142))
  case atStart => exact ⟨0, by omega, rfl, rfl, rfl, by simp [preOk], rfl⟩
  case round =>
    obtain ⟨k, hk, rfl, rfl, rfl, hp, rfl⟩ := hrel
    have HP := Lib.hid hp
    clear hp
    match k, hk with
    | 0, _ =>
      go_wp2
      all_goals first
        | (go_roundg 6
           case measure => decide
           case rel =>
             have hp := HP.out
             simp only [preOk, okAt] at hp
             refine ⟨1, ?_, rfl, rfl, rfl, ?_, rfl⟩
             · decide
             · simp [preOk, okAt] <;> omega)
        | ((try rw [Exit.noGoto_ret])
           go_ret
           have hp := HP.out
           simp only [preOk, okAt] at hp
           exact ⟨ret_int (by rw [chk_no]; simp only [Cfg.ok, okAt]; omega), (by repeat (with_reducible first | exact Below.refl _ _ | assumption | (refine ext_next (by assumption) ?_) | apply ext_alloc | apply ext_past | apply ext_drew | apply ext_drewN))⟩)
    | 1, _ =>
      go_wp2
      all_goals first
        | (go_roundg 5
           case measure => decide
           case rel =>
             have hp := HP.out
             simp only [preOk, okAt] at hp
             refine ⟨2, ?_, rfl, rfl, rfl, ?_, rfl⟩
             · decide
             · simp [preOk, okAt] <;> omega)
        | ((try rw [Exit.noGoto_ret])
           go_ret
           have hp := HP.out
           simp only [preOk, okAt] at hp
           exact ⟨ret_int (by rw [chk_no]; simp only [Cfg.ok, okAt]; omega), (by repeat (with_reducible first | exact Below.refl _ _ | assumption | (refine ext_next (by assumption) ?_) | apply ext_alloc | apply ext_past | apply ext_drew | apply ext_drewN))⟩)
    | 2, _ =>
      go_wp2
      all_goals first
        | (go_roundg 4
           case measure => decide
           case rel =>
             have hp := HP.out
             simp only [preOk, okAt] at hp
             refine ⟨3, ?_, rfl, rfl, rfl, ?_, rfl⟩
             · decide
             · simp [preOk, okAt] <;> omega)
        | ((try rw [Exit.noGoto_ret])
           go_ret
           have hp := HP.out
           simp only [preOk, okAt] at hp
           exact ⟨ret_int (by rw [chk_no]; simp only [Cfg.ok, okAt]; omega), (by repeat (with_reducible first | exact Below.refl _ _ | assumption | (refine ext_next (by assumption) ?_) | apply ext_alloc | apply ext_past | apply ext_drew | apply ext_drewN))⟩)
    | 3, _ =>
      go_wp2
      all_goals first
        | (go_roundg 3
           case measure => decide
           case rel =>
             have hp := HP.out
             simp only [preOk, okAt] at hp
             refine ⟨4, ?_, rfl, rfl, rfl, ?_, rfl⟩
             · decide
             · simp [preOk, okAt] <;> omega)
        | ((try rw [Exit.noGoto_ret])
           go_ret
           have hp := HP.out
           simp only [preOk, okAt] at hp
           exact ⟨ret_int (by rw [chk_no]; simp only [Cfg.ok, okAt]; omega), (by repeat (with_reducible first | exact Below.refl _ _ | assumption | (refine ext_next (by assumption) ?_) | apply ext_alloc | apply ext_past | apply ext_drew | apply ext_drewN))⟩)
    | 4, _ =>
      go_wp2
      all_goals first
        | (go_roundg 2
           case measure => decide
           case rel =>
             have hp := HP.out
             simp only [preOk, okAt] at hp
             refine ⟨5, ?_, rfl, rfl, rfl, ?_, rfl⟩
             · decide
             · simp [preOk, okAt] <;> omega)
        | ((try rw [Exit.noGoto_ret])
           go_ret
           have hp := HP.out
           simp only [preOk, okAt] at hp
           exact ⟨ret_int (by rw [chk_no]; simp only [Cfg.ok, okAt]; omega), (by repeat (with_reducible first | exact Below.refl _ _ | assumption | (refine ext_next (by assumption) ?_) | apply ext_alloc | apply ext_past | apply ext_drew | apply ext_drewN))⟩)
    | 5, _ =>
      go_wp2
      all_goals first
        | (go_roundg 1
           case measure => decide
           case rel =>
             have hp := HP.out
             simp only [preOk, okAt] at hp
             refine ⟨6, ?_, rfl, rfl, rfl, ?_, rfl⟩
             · decide
             · simp [preOk, okAt] <;> omega)
        | ((try rw [Exit.noGoto_ret])
           go_ret
           have hp := HP.out
           simp only [preOk, okAt] at hp
           exact ⟨ret_int (by rw [chk_no]; simp only [Cfg.ok, okAt]; omega), (by repeat (with_reducible first | exact Below.refl _ _ | assumption | (refine ext_next (by assumption) ?_) | apply ext_alloc | apply ext_past | apply ext_drew | apply ext_drewN))⟩)
    | 6, _ =>
      go_wp2
      all_goals first
        | (go_roundg 0
           case measure => decide
           case rel =>
             have hp := HP.out
             simp only [preOk, okAt] at hp
             refine ⟨7, ?_, rfl, rfl, rfl, ?_, rfl⟩
             · decide
             · simp [preOk, okAt] <;> omega)
        | ((try rw [Exit.noGoto_ret])
           go_ret
           have hp := HP.out
           simp only [preOk, okAt] at hp
           exact ⟨ret_int (by rw [chk_no]; simp only [Cfg.ok, okAt]; omega), (by repeat (with_reducible first | exact Below.refl _ _ | assumption | (refine ext_next (by assumption) ?_) | apply ext_alloc | apply ext_past | apply ext_drew | apply ext_drewN))⟩)
    | 7, _ =>
      go_wp2
      all_goals (try rw [Exit.noGoto_ret])
      go_ret
      have hp := HP.out
      simp [preOk] at hp
      exact ⟨ret_int (by rw [chk_ok]; exact hp), (by repeat (with_reducible first | exact Below.refl _ _ | assumption | (refine ext_next (by assumption) ?_) | apply ext_alloc | apply ext_past | apply ext_drew | apply ext_drewN))⟩

set_option maxHeartbeats 400000 in
theorem lines_any (c : Cfg) (w : World) (hL : Lims w) :
    Calls Tryd.prog 68 #[.agg #[.int .i64 c.co, .int .i64 c.gr, .int .i64 c.se, .int .i64 c.wa, .int .i64 c.de, .int .i64 c.en, .int .i64 c.ba]] w fun x w' => x = .returned (.int .i64 (lin c)) ∧ Below w.heap.size w w' := by
  have h0 := hL.lt
  by_cases hc : c.ok
  · have e := chk_ok hc
    have el := Lib.hid (lin_ok hc)
    obtain ⟨_, ⟨_, _⟩, _⟩ := hc
    go_enter Tryd.func68, Tryd.ntmps68
    go_wp2_with (go_at_call 75; refine (check_any c _ (by repeat (with_reducible first | assumption | (refine Lims.ext (by assumption) ?_) | apply Lims.alloc | apply Lims.past | apply Lims.drew | apply Lims.drewN))).mono ?_; rintro x w1 ⟨rfl, hb⟩; obtain ⟨hc1, hf1⟩ := bcell hb)
    go_ret
    exact ⟨ret_int (by rw [el.out]; omega), (Below.refl _ _).alloc (Nat.le_refl _) _ |>.trans (hb.mono (by simp))⟩
  · have e := chk_no hc
    have el := Lib.hid (lin_no hc)
    go_enter Tryd.func68, Tryd.ntmps68
    go_wp2_with (go_at_call 75; refine (check_any c _ (by repeat (with_reducible first | assumption | (refine Lims.ext (by assumption) ?_) | apply Lims.alloc | apply Lims.past | apply Lims.drew | apply Lims.drewN))).mono ?_; rintro x w1 ⟨rfl, hb⟩)
    go_ret
    exact ⟨ret_int (by rw [el.out]), (Below.refl _ _).alloc (Nat.le_refl _) _ |>.trans (hb.mono (by simp))⟩

theorem words_any (c : Cfg) (w : World) (hL : Lims w) :
    Calls Tryd.prog 42 #[.agg #[.int .i64 c.co, .int .i64 c.gr, .int .i64 c.se, .int .i64 c.wa, .int .i64 c.de, .int .i64 c.en, .int .i64 c.ba]] w fun x w' => x = .returned (.int .i64 (lin c * 2)) ∧ Below w.heap.size w w' := by
  have h0 := hL.lt
  obtain ⟨h1, h2⟩ := lin_bd c
  go_enter Tryd.func42, Tryd.ntmps42
  go_wp2_with (go_at_call 68; refine (lines_any c _ (by repeat (with_reducible first | assumption | (refine Lims.ext (by assumption) ?_) | apply Lims.alloc | apply Lims.past | apply Lims.drew | apply Lims.drewN))).mono ?_; rintro x w1 ⟨rfl, hb⟩)
  go_ret
  exact ⟨ret_int (by omega), (Below.refl _ _).alloc (Nat.le_refl _) _ |>.trans (hb.mono (by simp))⟩

end Go.Proofs.YtkobeajbiendlaaDoor
namespace Go.Proofs.YtkobeajbiendlaaDoor
open Go.RowKit

set_option maxHeartbeats 400000 in
theorem line_ok (c : Cfg) (x : Int) (w : World) (hL : Lims w) (hx : 0 ≤ x) (hx2 : x < lin c * 2) :
    Calls Tryd.prog 89 #[.agg #[.int .i64 c.co, .int .i64 c.gr, .int .i64 c.se, .int .i64 c.wa, .int .i64 c.de, .int .i64 c.en, .int .i64 c.ba], .int .i64 x] w fun e w' => e = .returned (.tuple #[.int .i64 (x / 2), .int .i64 (x % 2), .int .i64 0]) ∧ Below w.heap.size w w' := by
  have h0 := hL.lt
  obtain ⟨h1, h2⟩ := lin_bd c
  go_enter Tryd.func89, Tryd.ntmps89
  go_wp2_with (go_at_call 42; refine (words_any c _ (by repeat (with_reducible first | assumption | (refine Lims.ext (by assumption) ?_) | apply Lims.alloc | apply Lims.past | apply Lims.drew | apply Lims.drewN))).mono ?_; rintro x w1 ⟨rfl, hb⟩; obtain ⟨hc1, hf1⟩ := bcell hb)
  go_ret3
  exact ⟨rfl, (by repeat (with_reducible first | exact Below.refl _ _ | assumption | (refine ext_next (by assumption) ?_) | apply ext_alloc | apply ext_past | apply ext_drew | apply ext_drewN))⟩
set_option maxHeartbeats 400000 in
theorem line_no (c : Cfg) (x : Int) (w : World) (hL : Lims w) (hx : x < 0 ∨ lin c * 2 ≤ x) :
    Calls Tryd.prog 89 #[.agg #[.int .i64 c.co, .int .i64 c.gr, .int .i64 c.se, .int .i64 c.wa, .int .i64 c.de, .int .i64 c.en, .int .i64 c.ba], .int .i64 x] w fun e w' => e = .returned (.tuple #[.int .i64 0, .int .i64 0, .int .i64 10]) ∧ Below w.heap.size w w' := by
  have h0 := hL.lt
  obtain ⟨h1, h2⟩ := lin_bd c
  by_cases hn : x < 0
  · clear hx
    go_enter Tryd.func89, Tryd.ntmps89
    go_wp2_with (go_at_call 42; refine (words_any c _ (by repeat (with_reducible first | assumption | (refine Lims.ext (by assumption) ?_) | apply Lims.alloc | apply Lims.past | apply Lims.drew | apply Lims.drewN))).mono ?_; rintro x w1 ⟨rfl, hb⟩; obtain ⟨hc1, hf1⟩ := bcell hb)
    go_ret3
    exact ⟨rfl, (by repeat (with_reducible first | exact Below.refl _ _ | assumption | (refine ext_next (by assumption) ?_) | apply ext_alloc | apply ext_past | apply ext_drew | apply ext_drewN))⟩
  · have hx2 : lin c * 2 ≤ x := by omega
    clear hx
    go_enter Tryd.func89, Tryd.ntmps89
    go_wp2_with (go_at_call 42; refine (words_any c _ (by repeat (with_reducible first | assumption | (refine Lims.ext (by assumption) ?_) | apply Lims.alloc | apply Lims.past | apply Lims.drew | apply Lims.drewN))).mono ?_; rintro x w1 ⟨rfl, hb⟩; obtain ⟨hc1, hf1⟩ := bcell hb)
    go_ret3
    exact ⟨rfl, (by repeat (with_reducible first | exact Below.refl _ _ | assumption | (refine ext_next (by assumption) ?_) | apply ext_alloc | apply ext_past | apply ext_drew | apply ext_drewN))⟩

set_option maxHeartbeats 400000 in
theorem gran_ok (c : Cfg) (x : Int) (w : World) (hL : Lims w) (hx : 0 ≤ x) (hx2 : x < lin c) :
    Calls Tryd.prog 90 #[.agg #[.int .i64 c.co, .int .i64 c.gr, .int .i64 c.se, .int .i64 c.wa, .int .i64 c.de, .int .i64 c.en, .int .i64 c.ba], .int .i64 x] w fun e w' => e = .returned (.tuple #[.int .i64 (x / 2), .int .i64 0]) ∧ Below w.heap.size w w' := by
  have h0 := hL.lt
  obtain ⟨h1, h2⟩ := lin_bd c
  go_enter Tryd.func90, Tryd.ntmps90
  go_wp2_with (go_at_call 68; refine (lines_any c _ (by repeat (with_reducible first | assumption | (refine Lims.ext (by assumption) ?_) | apply Lims.alloc | apply Lims.past | apply Lims.drew | apply Lims.drewN))).mono ?_; rintro x w1 ⟨rfl, hb⟩; obtain ⟨hc1, hf1⟩ := bcell hb)
  go_ret2
  exact ⟨rfl, (by repeat (with_reducible first | exact Below.refl _ _ | assumption | (refine ext_next (by assumption) ?_) | apply ext_alloc | apply ext_past | apply ext_drew | apply ext_drewN))⟩
set_option maxHeartbeats 400000 in
theorem gran_no (c : Cfg) (x : Int) (w : World) (hL : Lims w) (hx : x < 0 ∨ lin c ≤ x) :
    Calls Tryd.prog 90 #[.agg #[.int .i64 c.co, .int .i64 c.gr, .int .i64 c.se, .int .i64 c.wa, .int .i64 c.de, .int .i64 c.en, .int .i64 c.ba], .int .i64 x] w fun e w' => e = .returned (.tuple #[.int .i64 0, .int .i64 10]) ∧ Below w.heap.size w w' := by
  have h0 := hL.lt
  obtain ⟨h1, h2⟩ := lin_bd c
  by_cases hn : x < 0
  · clear hx
    go_enter Tryd.func90, Tryd.ntmps90
    go_wp2_with (go_at_call 68; refine (lines_any c _ (by repeat (with_reducible first | assumption | (refine Lims.ext (by assumption) ?_) | apply Lims.alloc | apply Lims.past | apply Lims.drew | apply Lims.drewN))).mono ?_; rintro x w1 ⟨rfl, hb⟩; obtain ⟨hc1, hf1⟩ := bcell hb)
    go_ret2
    exact ⟨rfl, (by repeat (with_reducible first | exact Below.refl _ _ | assumption | (refine ext_next (by assumption) ?_) | apply ext_alloc | apply ext_past | apply ext_drew | apply ext_drewN))⟩
  · have hx2 : lin c ≤ x := by omega
    clear hx
    go_enter Tryd.func90, Tryd.ntmps90
    go_wp2_with (go_at_call 68; refine (lines_any c _ (by repeat (with_reducible first | assumption | (refine Lims.ext (by assumption) ?_) | apply Lims.alloc | apply Lims.past | apply Lims.drew | apply Lims.drewN))).mono ?_; rintro x w1 ⟨rfl, hb⟩; obtain ⟨hc1, hf1⟩ := bcell hb)
    go_ret2
    exact ⟨rfl, (by repeat (with_reducible first | exact Below.refl _ _ | assumption | (refine ext_next (by assumption) ?_) | apply ext_alloc | apply ext_past | apply ext_drew | apply ext_drewN))⟩

set_option maxHeartbeats 400000 in
theorem bank_ok (c : Cfg) (x : Int) (w : World) (hL : Lims w) (hx : 0 ≤ x) (hx2 : x < lin c) (hb1 : 1 ≤ c.ba) :
    Calls Tryd.prog 95 #[.agg #[.int .i64 c.co, .int .i64 c.gr, .int .i64 c.se, .int .i64 c.wa, .int .i64 c.de, .int .i64 c.en, .int .i64 c.ba], .int .i64 x] w fun e w' => e = .returned (.tuple #[.int .i64 (x % c.ba), .int .i64 0]) ∧ Below w.heap.size w w' := by
  have h0 := hL.lt
  obtain ⟨h1, h2⟩ := lin_bd c
  have hb0 : (c.ba == 0) = false := by rw [beq_eq_false_iff_ne]; omega
  go_enter Tryd.func95, Tryd.ntmps95
  go_wp2_with (go_at_call 68; refine (lines_any c _ (by repeat (with_reducible first | assumption | (refine Lims.ext (by assumption) ?_) | apply Lims.alloc | apply Lims.past | apply Lims.drew | apply Lims.drewN))).mono ?_; rintro x w1 ⟨rfl, hb⟩; obtain ⟨hc1, hf1⟩ := bcell hb)
  go_ret2
  exact ⟨rfl, (by repeat (with_reducible first | exact Below.refl _ _ | assumption | (refine ext_next (by assumption) ?_) | apply ext_alloc | apply ext_past | apply ext_drew | apply ext_drewN))⟩
set_option maxHeartbeats 400000 in
theorem bank_no (c : Cfg) (x : Int) (w : World) (hL : Lims w) (hx : x < 0 ∨ lin c ≤ x) :
    Calls Tryd.prog 95 #[.agg #[.int .i64 c.co, .int .i64 c.gr, .int .i64 c.se, .int .i64 c.wa, .int .i64 c.de, .int .i64 c.en, .int .i64 c.ba], .int .i64 x] w fun e w' => e = .returned (.tuple #[.int .i64 0, .int .i64 10]) ∧ Below w.heap.size w w' := by
  have h0 := hL.lt
  obtain ⟨h1, h2⟩ := lin_bd c
  by_cases hn : x < 0
  · clear hx
    go_enter Tryd.func95, Tryd.ntmps95
    go_wp2_with (go_at_call 68; refine (lines_any c _ (by repeat (with_reducible first | assumption | (refine Lims.ext (by assumption) ?_) | apply Lims.alloc | apply Lims.past | apply Lims.drew | apply Lims.drewN))).mono ?_; rintro x w1 ⟨rfl, hb⟩; obtain ⟨hc1, hf1⟩ := bcell hb)
    go_ret2
    exact ⟨rfl, (by repeat (with_reducible first | exact Below.refl _ _ | assumption | (refine ext_next (by assumption) ?_) | apply ext_alloc | apply ext_past | apply ext_drew | apply ext_drewN))⟩
  · have hx2 : lin c ≤ x := by omega
    clear hx
    go_enter Tryd.func95, Tryd.ntmps95
    go_wp2_with (go_at_call 68; refine (lines_any c _ (by repeat (with_reducible first | assumption | (refine Lims.ext (by assumption) ?_) | apply Lims.alloc | apply Lims.past | apply Lims.drew | apply Lims.drewN))).mono ?_; rintro x w1 ⟨rfl, hb⟩; obtain ⟨hc1, hf1⟩ := bcell hb)
    go_ret2
    exact ⟨rfl, (by repeat (with_reducible first | exact Below.refl _ _ | assumption | (refine ext_next (by assumption) ?_) | apply ext_alloc | apply ext_past | apply ext_drew | apply ext_drewN))⟩


end Go.Proofs.YtkobeajbiendlaaDoor
namespace Go.Proofs.YtkobeajbiendlaaDoor
open Go.RowKit Go.Shelf
attribute [local go_sem] Oper.semAt_some

/-- A granule that the configuration has. -/
def has (c : Cfg) (g : Int) : Prop := c.ok ∧ 0 ≤ g ∧ g < c.gr
instance (c : Cfg) (g : Int) : Decidable (has c g) := by unfold has; infer_instance
/-- A line of a granule. -/
def Ln (c : Cfg) (g : Int) : Type := { x : Int // has c g ∧ (x = g * 2 ∨ x = g * 2 + 1) }
/-- All lines of a granule. -/
def lns (c : Cfg) (g : Int) : List (Ln c g) := if h : has c g then [⟨g * 2, h, .inl rfl⟩, ⟨g * 2 + 1, h, .inr rfl⟩] else []
/-- What a round keeps: the iterator's own two cells. -/
def KeepB (B : Nat) (W W' : World) : Prop := W'.heap[B]? = W.heap[B]? ∧ W'.heap[B + 1]? = W.heap[B + 1]?
theorem KeepB.trans {B : Nat} {a b c : World} (h : KeepB B a b) (k : KeepB B b c) : KeepB B a c := ⟨k.1.trans h.1, k.2.trans h.2⟩

theorem linesof_any (c : Cfg) (g : Int) (w : World) : Calls Tryd.prog 91 #[.agg #[.int .i64 c.co, .int .i64 c.gr, .int .i64 c.se, .int .i64 c.wa, .int .i64 c.de, .int .i64 c.en, .int .i64 c.ba], .int .i64 g] w fun e w' =>
    e = .returned (.func (.func 94) #[] #[.pointer (some ⟨w.heap.size, 0, none⟩), .pointer (some ⟨w.heap.size + 1, 0, none⟩)]) ∧ w' = (w.alloc (.cells #[.int .i64 c.co, .int .i64 c.gr, .int .i64 c.se, .int .i64 c.wa, .int .i64 c.de, .int .i64 c.en, .int .i64 c.ba] 65)).alloc (.cells #[.int .i64 g] 3) := by
  go_enter Tryd.func91, Tryd.ntmps91
  go_wp2
  go_ret
  exact ⟨rfl, rfl⟩

theorem cfg_cells {W : World} {B : Nat} {c : Cfg} {t : TypeId} {fr : Nat × Nat} (h : W.heap[B]? = some (.cells #[.int .i64 c.co, .int .i64 c.gr, .int .i64 c.se, .int .i64 c.wa, .int .i64 c.de, .int .i64 c.en, .int .i64 c.ba] t fr)) :
    W.cell? ⟨B, 0, none⟩ = some (.int .i64 c.co) ∧ W.cell? ⟨B, 1, none⟩ = some (.int .i64 c.gr) ∧ W.cell? ⟨B, 2, none⟩ = some (.int .i64 c.se) ∧ W.cell? ⟨B, 3, none⟩ = some (.int .i64 c.wa) ∧
    W.cell? ⟨B, 4, none⟩ = some (.int .i64 c.de) ∧ W.cell? ⟨B, 5, none⟩ = some (.int .i64 c.en) ∧ W.cell? ⟨B, 6, none⟩ = some (.int .i64 c.ba) := by
  simp [World.cell?, h]
theorem one_cell {W : World} {B : Nat} {v : Value} {t : TypeId} {fr : Nat × Nat} (h : W.heap[B]? = some (.cells #[v] t fr)) : W.cell? ⟨B, 0, none⟩ = some v := by
  simp [World.cell?, h]
theorem grown_of_below {W W' : World} (h : Below W.heap.size W W') : W.grownBy W' none := ⟨h.os, h.tape, h.output, h.size, fun k hk _ => h.block k hk⟩

set_option maxRecDepth 100000 in
set_option maxHeartbeats 2000000 in
theorem linesOf_stops (n : Nat) (hn : 2 ≤ n) (c : Cfg) (g : Int) (B : Nat) (w : World) (hL : Lims w) (hB : B + 1 < w.heap.size)
    (hc0 : w.heap[B]? = some (.cells #[.int .i64 c.co, .int .i64 c.gr, .int .i64 c.se, .int .i64 c.wa, .int .i64 c.de, .int .i64 c.en, .int .i64 c.ba] 65 (0, 0))) (hg0 : w.heap[B + 1]? = some (.cells #[.int .i64 g] 3 (0, 0))) :
    SeqStopsK Fence.wide n Tryd.prog 94 #[.pointer (some ⟨B, 0, none⟩), .pointer (some ⟨B + 1, 0, none⟩)] (fun x : Ln c g => #[Value.int .i64 x.1]) (KeepB B) (fun ys => ys = lns c g) (fun pre => pre <+: lns c g) 2 w := fun l J Jx W hW hJ _ hY h0 => by
  have hLW : Lims W := hL.ext hW
  have hWc : W.heap[B]? = some (.cells #[.int .i64 c.co, .int .i64 c.gr, .int .i64 c.se, .int .i64 c.wa, .int .i64 c.de, .int .i64 c.en, .int .i64 c.ba] 65 (0, 0)) := (hW.block _ (by omega)).trans hc0
  have hWg : W.heap[B + 1]? = some (.cells #[.int .i64 g] 3 (0, 0)) := (hW.block _ (by omega)).trans hg0
  have hBW : B + 1 < W.heap.size := Nat.lt_of_lt_of_le hB hW.size
  refine callsIn_of_wp Tryd.func94 rfl trivial ?_ rfl
  simp only [Tryd.ntmps94, List.size_toArray, List.length_cons, List.length_nil, Nat.reduceAdd, Nat.reduceSub, Array.replicate_succ, Array.replicate_zero, List.push_toArray, List.append_toArray, List.nil_append, List.cons_append]
  by_cases h : has c g
  · have hch := chk_ok h.1
    have hgr := h.1.2.1.2
    obtain ⟨x1, hx1⟩ : ∃ x : Ln c g, x.1 = g * 2 := ⟨⟨g * 2, h, .inl rfl⟩, rfl⟩
    obtain ⟨x2, hx2⟩ : ∃ x : Ln c g, x.1 = g * 2 + 1 := ⟨⟨g * 2 + 1, h, .inr rfl⟩, rfl⟩
    have hl : lns c g = [x1, x2] := by
      unfold lns
      rw [dif_pos h]
      exact congr (congrArg _ (Subtype.ext hx1.symm)) (congrArg (· :: []) (Subtype.ext hx2.symm))
    obtain ⟨h1, h2, h3⟩ := h
    have HL := Lib.hid hl
    clear hl h1
    obtain ⟨k0, k1, k2, k3, k4, k5, k6⟩ := cfg_cells hWc
    have kg := one_cell hWg
    have hBB : B < W.heap.size := by omega
    have hn1 : 1 ≤ n := by omega
    have hn2 : 1 ≤ n - 1 := by omega
    gi_wp2_with (refine ⟨trivial, ?_⟩; gi_at_call 75; refine (callsIn_wide.2 (check_any c _ hLW)).mono ?_; rintro e W1 ⟨rfl, hb1⟩; obtain ⟨hc1, hf1⟩ := bcell hb1)
    gi_loopw [18] (fun p wr => ∃ k : Nat, k ≤ 2 ∧ p = .int .i64 k ∧ J ((lns c g).take k) wr ∧ KeepB B W wr) (fun p _ => 2 - (intOf p).toNat)
    case atStart => exact ⟨0, by omega, rfl, hJ [] W W1 none h0 (grown_of_below hb1) (fun r e => by cases e), hb1.block _ (by omega), hb1.block _ (by omega)⟩
    case round =>
      obtain ⟨k, hk, rfl, hJs, hkp⟩ := hrel
      have kgw := one_cell (hkp.2.trans hWg)
      have hkk : k = 0 ∨ k = 1 ∨ k = 2 := by omega
      rcases hkk with rfl | rfl | rfl
      · have hJ0 : J [] wr := hJs
        obtain ⟨fn, tmps, assign, body, hy, hR⟩ := hY [] x1 wr hJ0 (by simp)
        rw [hx1] at hy
        gi_wp2
        refine hR.mono ?_
        rintro e W3 (⟨rfl, hJ3, hk3⟩ | ⟨rfl, hJx3⟩)
        · gi_wp2
          go_roundw
          case rel => exact ⟨1, by omega, by simp, by rw [HL.out]; exact hJ3, hkp.trans hk3⟩
          case measure => simp [intOf]
        · gi_wp2
          refine bodyPost_ret (results_none rfl _ _ _) rfl ?_
          exact ⟨⟨_, rfl⟩, .inr ⟨[x1], by rw [HL.out]; exact ⟨[x2], rfl⟩, hJx3⟩⟩
      · have hJ1 : J [x1] wr := by rw [HL.out] at hJs; exact hJs
        obtain ⟨fn, tmps, assign, body, hy, hR⟩ := hY [x1] x2 wr hJ1 (by simp)
        rw [hx2] at hy
        gi_wp2
        refine hR.mono ?_
        rintro e W3 (⟨rfl, hJ3, hk3⟩ | ⟨rfl, hJx3⟩)
        · gi_wp2
          go_roundw
          case rel => exact ⟨2, by omega, by simp, by rw [HL.out]; exact hJ3, hkp.trans hk3⟩
          case measure => simp [intOf]
        · gi_wp2
          refine bodyPost_ret (results_none rfl _ _ _) rfl ?_
          exact ⟨⟨_, rfl⟩, .inr ⟨[x1, x2], by rw [HL.out]; exact ⟨[], rfl⟩, hJx3⟩⟩
      · have hJ2 : J (lns c g) wr := by rw [HL.out] at hJs ⊢; exact hJs
        gi_wp2
        go_end0
        exact ⟨⟨_, rfl⟩, .inl ⟨_, rfl, hJ2⟩⟩
  · have hl : lns c g = [] := by unfold lns; rw [dif_neg h]
    have HL := Lib.hid hl
    clear hl
    obtain ⟨k0, k1, k2, k3, k4, k5, k6⟩ := cfg_cells hWc
    have kg := one_cell hWg
    have hBB : B < W.heap.size := by omega
    have hn1 : 1 ≤ n := by omega
    by_cases hok : c.ok
    · have hch := chk_ok hok
      by_cases hg : g < 0
      · clear hok h
        gi_wp2_with (refine ⟨trivial, ?_⟩; gi_at_call 75; refine (callsIn_wide.2 (check_any c _ hLW)).mono ?_; rintro e W1 ⟨rfl, hb1⟩; obtain ⟨hc1, hf1⟩ := bcell hb1)
        refine bodyPost_ret (results_none rfl _ _ _) rfl ?_
        exact ⟨⟨_, rfl⟩, .inl ⟨_, rfl, by rw [HL.out]; exact hJ [] W W1 none h0 (grown_of_below hb1) (fun r e => by cases e)⟩⟩
      · have hg2 : c.gr ≤ g := by
          by_cases hx : c.gr ≤ g
          · exact hx
          · exact absurd ⟨hok, by omega, by omega⟩ h
        clear hok h
        gi_wp2_with (refine ⟨trivial, ?_⟩; gi_at_call 75; refine (callsIn_wide.2 (check_any c _ hLW)).mono ?_; rintro e W1 ⟨rfl, hb1⟩; obtain ⟨hc1, hf1⟩ := bcell hb1)
        refine bodyPost_ret (results_none rfl _ _ _) rfl ?_
        exact ⟨⟨_, rfl⟩, .inl ⟨_, rfl, by rw [HL.out]; exact hJ [] W W1 none h0 (grown_of_below hb1) (fun r e => by cases e)⟩⟩
    · have hch := chk_no hok
      clear hok h
      gi_wp2_with (refine ⟨trivial, ?_⟩; gi_at_call 75; refine (callsIn_wide.2 (check_any c _ hLW)).mono ?_; rintro e W1 ⟨rfl, hb1⟩; obtain ⟨hc1, hf1⟩ := bcell hb1)
      refine bodyPost_ret (results_none rfl _ _ _) rfl ?_
      exact ⟨⟨_, rfl⟩, .inl ⟨_, rfl, by rw [HL.out]; exact hJ [] W W1 none h0 (grown_of_below hb1) (fun r e => by cases e)⟩⟩

/-- A block of cells outlives the turn of what is no cells. -/
theorem blk_kept {W W' : World} {row : Option Nat} {b : Nat} {cs : Array Value} {t : TypeId} {fr : Nat × Nat} (h : W.heap[b]? = some (.cells cs t fr)) (hg : W.grownBy W' row)
    (hr : ∀ r, row = some r → ∃ o : Obj, W.heap[r]? = some o ∧ o.isCells = false) : W'.heap[b]? = some (.cells cs t fr) := by
  rw [hg.block b (Array.getElem?_eq_some_iff.1 h).1 (fun e => ?_)]
  · exact h
  · obtain ⟨o, ho, hc⟩ := hr b e.symm
    rw [h] at ho
    obtain rfl := Option.some.inj ho
    simp [Obj.isCells] at hc

end Go.Proofs.YtkobeajbiendlaaDoor
