/- What this text holds: which configurations may be, asked of the package of statements. No condition. -/
import Derived.Test.YtkfnjpmigifomaaDoorLaw01
namespace Go.Proofs.YtkfnjpmigifomaaDoor
open Go.RowKit

theorem may01_any (c : Cfg) (w : World) :
    Calls Tryd.prog 9 #[.agg #[.int .i64 c.co, .int .i64 c.gr, .int .i64 c.se, .int .i64 c.wa, .int .i64 c.de, .int .i64 c.en, .int .i64 c.ba]] w fun x w' => x = .returned (.bool (mayB c)) ∧ Below w.heap.size w w' := by
  go_enter Tryd.func9, Tryd.ntmps9
  go_wp2_with (go_at_call 57; refine (refmay_any c _).mono ?_; rintro x w1 ⟨rfl, hb⟩)
  go_ret
  exact ⟨rfl, (by repeat (with_reducible first | exact Below.refl _ _ | assumption | (refine ext_next (by assumption) ?_) | apply ext_alloc | apply ext_past | apply ext_drew | apply ext_drewN))⟩
theorem may01_yes {c : Cfg} (h : c.ok) (w : World) : Calls Tryd.prog 9 #[.agg #[.int .i64 c.co, .int .i64 c.gr, .int .i64 c.se, .int .i64 c.wa, .int .i64 c.de, .int .i64 c.en, .int .i64 c.ba]] w fun x w' => x = .returned (.bool true) ∧ Below w.heap.size w w' := by
  have := may01_any c w
  rw [mayB_yes h] at this
  exact this
theorem may01_no {c : Cfg} (h : ¬ c.ok) (w : World) : Calls Tryd.prog 9 #[.agg #[.int .i64 c.co, .int .i64 c.gr, .int .i64 c.se, .int .i64 c.wa, .int .i64 c.de, .int .i64 c.en, .int .i64 c.ba]] w fun x w' => x = .returned (.bool false) ∧ Below w.heap.size w w' := by
  have := may01_any c w
  rw [mayB_no h] at this
  exact this

end Go.Proofs.YtkfnjpmigifomaaDoor
