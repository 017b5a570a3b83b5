/- What this text holds: the example of chapter 6. Condition: the table of states holds what its initialiser lays. -/
import Derived.Test.YtkfnjpmigifomaaDoorMoesi3
import Derived.Test.YtkfnjpmigifomaaDoorMoesi4
import Derived.Test.YtkfnjpmigifomaaDoorRef06
namespace Go.Proofs.YtkfnjpmigifomaaDoor
open Go.RowKit

theorem ex_grant (B : Nat) (w : World) (hR : Rws w) (hB : B < w.heap.size) (h0 : w.cell? ⟨B, 0, none⟩ = some (.int .i64 3)) (h1 : w.cell? ⟨B, 1, none⟩ = some (.int .i64 0)) :
    Calls Tryd.prog 88 #[.int .i64 1, .slice (some ⟨B, 0, none⟩) 2 2] w fun e w' => e = .returned (.tuple #[.int .i64 1, .int .i64 0]) ∧ w = w' :=
  granted_any 1 (some ⟨B, 0, none⟩) 2 [3, 0] w hR (fun _ => ⟨B, 0, rfl, hB, fun i hi => by match i, hi with | 0, _ => exact h0 | 1, _ => exact h1⟩) (by decide) (.inl rfl)
theorem ex_fit (B : Nat) (w : World) (hR : Rws w) (hB : B < w.heap.size) (h0 : w.cell? ⟨B, 0, none⟩ = some (.int .i64 3)) (h1 : w.cell? ⟨B, 1, none⟩ = some (.int .i64 1)) (h2 : w.cell? ⟨B, 2, none⟩ = some (.int .i64 1)) :
    Calls Tryd.prog 89 #[.slice (some ⟨B, 0, none⟩) 3 3] w fun e w' => e = .returned (.bool true) ∧ w = w' :=
  fit_any (some ⟨B, 0, none⟩) 3 [3, 1, 1] w hR (fun _ => ⟨B, 0, rfl, hB, fun i hi => by match i, hi with | 0, _ => exact h0 | 1, _ => exact h1 | 2, _ => exact h2⟩) (by decide)
theorem ex_unfit (B : Nat) (w : World) (hR : Rws w) (hB : B < w.heap.size) (h0 : w.cell? ⟨B, 0, none⟩ = some (.int .i64 2)) (h1 : w.cell? ⟨B, 1, none⟩ = some (.int .i64 1)) :
    Calls Tryd.prog 89 #[.slice (some ⟨B, 0, none⟩) 2 2] w fun e w' => e = .returned (.bool false) ∧ w = w' :=
  fit_any (some ⟨B, 0, none⟩) 2 [2, 1] w hR (fun _ => ⟨B, 0, rfl, hB, fun i hi => by match i, hi with | 0, _ => exact h0 | 1, _ => exact h1⟩) (by decide)

/-- The chapter's example. -/
theorem awake06 (w : World) (hR : Rws w) :
    Calls Tryd.prog 56 #[] w fun e w' => e = .returned (.bool true) ∧ Below w.heap.size w w' := by
  have h0 := hR.lt
  go_enter Tryd.func56, Tryd.ntmps56
  go_wp2_with fail
  refine (probe_4_1 _ (by repeat (with_reducible first | assumption | (refine Rws.ext (by assumption) ?_) | apply Rws.alloc | apply Rws.past | apply Rws.drew | apply Rws.drewN))).mono ?_; rintro e w' ⟨rfl, rfl⟩
  go_wp2_with fail
  refine (ex_grant _ _ (by repeat (with_reducible first | assumption | (refine Rws.ext (by assumption) ?_) | apply Rws.alloc | apply Rws.past | apply Rws.drew | apply Rws.drewN)) (by simp) (by go_simp) (by go_simp)).mono ?_; rintro e w' ⟨rfl, rfl⟩
  go_wp2_with fail
  refine (ex_fit _ _ (by repeat (with_reducible first | assumption | (refine Rws.ext (by assumption) ?_) | apply Rws.alloc | apply Rws.past | apply Rws.drew | apply Rws.drewN)) (by simp) (by go_simp) (by go_simp) (by go_simp)).mono ?_; rintro e w' ⟨rfl, rfl⟩
  go_wp2_with fail
  refine (ex_unfit _ _ (by repeat (with_reducible first | assumption | (refine Rws.ext (by assumption) ?_) | apply Rws.alloc | apply Rws.past | apply Rws.drew | apply Rws.drewN)) (by simp) (by go_simp) (by go_simp)).mono ?_; rintro e w' ⟨rfl, rfl⟩
  go_wp2
  go_ret
  exact ⟨rfl, (by repeat (with_reducible first | exact Below.refl _ _ | assumption | (refine ext_next (by assumption) ?_) | apply ext_alloc | apply ext_past | apply ext_drew | apply ext_drewN))⟩

end Go.Proofs.YtkfnjpmigifomaaDoor
