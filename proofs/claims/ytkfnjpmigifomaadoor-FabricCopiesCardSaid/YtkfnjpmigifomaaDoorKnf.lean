/- What this text holds: the fields of a note: which there are, what they may be, reading and writing them. Condition: the tables of kinds and of limits hold what their initialisers lay. -/
import Derived.Test.YtkfnjpmigifomaaDoorKnd
import Derived.Test.YtkfnjpmigifomaaDoorPlace
import Derived.Test.YtkfnjpmigifomaaDoorRfn
namespace Go.Proofs.YtkfnjpmigifomaaDoor
open Go.RowKit Go.Shelf
attribute [local go_sem] Oper.semAt_some

/-- The fields of a kind. -/
def fieldsT (k : Nat) : List Int := ([[], [1, 2, 3], [1, 2, 3], [1, 2, 4, 8, 9, 10], [1, 2], [1, 2, 5, 8, 9, 10, 11], [1, 12], [1, 13], [1, 2, 4, 6, 8, 9], [1, 2, 11], [1, 2], [1, 2, 7], [1, 8, 9, 12], [1, 13]] : List (List Int))[k]?.getD []
def fldT (k j : Nat) : Int := (fieldsT k)[j]?.getD 0
set_option maxRecDepth 100000 in
theorem Kinds.fld {w : World} (h : Kinds w) (k j : Nat) (hk : k < 14) (hj : j < 7) : w.cell? ⟨2, k * 9 + 2 + j, none⟩ = some (.int .i64 (fldT k j)) := by
  obtain ⟨t, fr, h⟩ := h
  unfold World.cell?
  rw [h]
  have h1 : k = 0 ∨ k = 1 ∨ k = 2 ∨ k = 3 ∨ k = 4 ∨ k = 5 ∨ k = 6 ∨ k = 7 ∨ k = 8 ∨ k = 9 ∨ k = 10 ∨ k = 11 ∨ k = 12 ∨ k = 13 := by omega
  have h2 : j = 0 ∨ j = 1 ∨ j = 2 ∨ j = 3 ∨ j = 4 ∨ j = 5 ∨ j = 6 := by omega
  rcases h1 with rfl | rfl | rfl | rfl | rfl | rfl | rfl | rfl | rfl | rfl | rfl | rfl | rfl | rfl <;> rcases h2 with rfl | rfl | rfl | rfl | rfl | rfl | rfl <;> rfl
theorem fields_bd (k : Nat) : (fieldsT k).length ≤ 7 ∧ ∀ f ∈ fieldsT k, 1 ≤ f ∧ f ≤ 13 := by
  by_cases h : k < 14
  · have h1 : k = 0 ∨ k = 1 ∨ k = 2 ∨ k = 3 ∨ k = 4 ∨ k = 5 ∨ k = 6 ∨ k = 7 ∨ k = 8 ∨ k = 9 ∨ k = 10 ∨ k = 11 ∨ k = 12 ∨ k = 13 := by omega
    rcases h1 with rfl | rfl | rfl | rfl | rfl | rfl | rfl | rfl | rfl | rfl | rfl | rfl | rfl | rfl <;> decide
  · have : fieldsT k = [] := by unfold fieldsT; rw [List.getElem?_eq_none (by simp; omega)]; rfl
    rw [this]
    exact ⟨by decide, fun f hf => by cases hf⟩
/-- A field of a note: its number, what it may be, another number in it. -/
def getF (x : Nt) (f : Int) : Int := if f = 1 then x.c else if f = 2 then x.l else if f = 3 ∨ f = 4 then x.w else if f = 5 ∨ f = 6 ∨ f = 7 then x.s else if f = 8 then x.a else if f = 9 then x.b else if f = 10 then (if x.d then 1 else 0) else x.n
def setF (x : Nt) (f v : Int) : Nt := if f = 1 then { x with c := v } else if f = 2 then { x with l := v } else if f = 3 ∨ f = 4 then { x with w := v } else if f = 5 ∨ f = 6 ∨ f = 7 then { x with s := v } else if f = 8 then { x with a := v } else if f = 9 then { x with b := v } else if f = 10 then { x with d := v != 0 } else { x with n := v }
def mayF (c : Cfg) (f v : Int) : Bool := if f = 1 then decide (0 ≤ v) && decide (v < c.co) else if f = 2 then decide (0 ≤ v) && decide (v < 2 * c.gr) else if f = 3 then decide (0 ≤ v) && decide (v ≤ 3) else if f = 4 ∨ f = 5 then decide (0 ≤ v) && decide (v ≤ 4) else if f = 6 then decide (v = 1) || decide (v = 2) || decide (v = 4) else if f = 7 ∨ f = 10 ∨ f = 11 then decide (v = 0) || decide (v = 1) else if f = 12 then decide (0 ≤ v) && decide (v < 20) else if f = 13 then decide (0 ≤ v) && decide (v < c.gr) else true
theorem f13 {f : Int} (h1 : 1 ≤ f) (h2 : f ≤ 13) : f = 1 ∨ f = 2 ∨ f = 3 ∨ f = 4 ∨ f = 5 ∨ f = 6 ∨ f = 7 ∨ f = 8 ∨ f = 9 ∨ f = 10 ∨ f = 11 ∨ f = 12 ∨ f = 13 := by omega

set_option maxRecDepth 100000 in
set_option maxHeartbeats 4000000 in
theorem nget_any (x : Nt) (f : Int) (h1 : 1 ≤ f) (h2 : f ≤ 13) (w : World) : Calls Tryd.prog 96 #[x.val, .int .i64 f] w fun e w' => e = .returned (.int .i64 (getF x f)) ∧ Below w.heap.size w w' := by
  obtain ⟨xk, xc, xl, xw, xs, xa, xb, xd, xn⟩ := x
  unfold Nt.val
  dsimp only
  rcases f13 h1 h2 with rfl | rfl | rfl | rfl | rfl | rfl | rfl | rfl | rfl | rfl | rfl | rfl | rfl
  · go_enter Tryd.func96, Tryd.ntmps96
    go_wp2_with fail
    go_ret
    exact ⟨rfl, (by repeat (with_reducible first | exact Below.refl _ _ | assumption | (refine ext_next (by assumption) ?_) | apply ext_alloc | apply ext_past | apply ext_drew | apply ext_drewN))⟩
  · go_enter Tryd.func96, Tryd.ntmps96
    go_wp2_with fail
    go_ret
    exact ⟨rfl, (by repeat (with_reducible first | exact Below.refl _ _ | assumption | (refine ext_next (by assumption) ?_) | apply ext_alloc | apply ext_past | apply ext_drew | apply ext_drewN))⟩
  · go_enter Tryd.func96, Tryd.ntmps96
    go_wp2_with fail
    go_ret
    exact ⟨rfl, (by repeat (with_reducible first | exact Below.refl _ _ | assumption | (refine ext_next (by assumption) ?_) | apply ext_alloc | apply ext_past | apply ext_drew | apply ext_drewN))⟩
  · go_enter Tryd.func96, Tryd.ntmps96
    go_wp2_with fail
    go_ret
    exact ⟨rfl, (by repeat (with_reducible first | exact Below.refl _ _ | assumption | (refine ext_next (by assumption) ?_) | apply ext_alloc | apply ext_past | apply ext_drew | apply ext_drewN))⟩
  · go_enter Tryd.func96, Tryd.ntmps96
    go_wp2_with fail
    go_ret
    exact ⟨rfl, (by repeat (with_reducible first | exact Below.refl _ _ | assumption | (refine ext_next (by assumption) ?_) | apply ext_alloc | apply ext_past | apply ext_drew | apply ext_drewN))⟩
  · go_enter Tryd.func96, Tryd.ntmps96
    go_wp2_with fail
    go_ret
    exact ⟨rfl, (by repeat (with_reducible first | exact Below.refl _ _ | assumption | (refine ext_next (by assumption) ?_) | apply ext_alloc | apply ext_past | apply ext_drew | apply ext_drewN))⟩
  · go_enter Tryd.func96, Tryd.ntmps96
    go_wp2_with fail
    go_ret
    exact ⟨rfl, (by repeat (with_reducible first | exact Below.refl _ _ | assumption | (refine ext_next (by assumption) ?_) | apply ext_alloc | apply ext_past | apply ext_drew | apply ext_drewN))⟩
  · go_enter Tryd.func96, Tryd.ntmps96
    go_wp2_with fail
    go_ret
    exact ⟨rfl, (by repeat (with_reducible first | exact Below.refl _ _ | assumption | (refine ext_next (by assumption) ?_) | apply ext_alloc | apply ext_past | apply ext_drew | apply ext_drewN))⟩
  · go_enter Tryd.func96, Tryd.ntmps96
    go_wp2_with fail
    go_ret
    exact ⟨rfl, (by repeat (with_reducible first | exact Below.refl _ _ | assumption | (refine ext_next (by assumption) ?_) | apply ext_alloc | apply ext_past | apply ext_drew | apply ext_drewN))⟩
  · cases xd
    · go_enter Tryd.func96, Tryd.ntmps96
      go_wp2_with fail
      go_ret
      exact ⟨rfl, (by repeat (with_reducible first | exact Below.refl _ _ | assumption | (refine ext_next (by assumption) ?_) | apply ext_alloc | apply ext_past | apply ext_drew | apply ext_drewN))⟩
    · go_enter Tryd.func96, Tryd.ntmps96
      go_wp2_with fail
      go_ret
      exact ⟨rfl, (by repeat (with_reducible first | exact Below.refl _ _ | assumption | (refine ext_next (by assumption) ?_) | apply ext_alloc | apply ext_past | apply ext_drew | apply ext_drewN))⟩
  · go_enter Tryd.func96, Tryd.ntmps96
    go_wp2_with fail
    go_ret
    exact ⟨rfl, (by repeat (with_reducible first | exact Below.refl _ _ | assumption | (refine ext_next (by assumption) ?_) | apply ext_alloc | apply ext_past | apply ext_drew | apply ext_drewN))⟩
  · go_enter Tryd.func96, Tryd.ntmps96
    go_wp2_with fail
    go_ret
    exact ⟨rfl, (by repeat (with_reducible first | exact Below.refl _ _ | assumption | (refine ext_next (by assumption) ?_) | apply ext_alloc | apply ext_past | apply ext_drew | apply ext_drewN))⟩
  · go_enter Tryd.func96, Tryd.ntmps96
    go_wp2_with fail
    go_ret
    exact ⟨rfl, (by repeat (with_reducible first | exact Below.refl _ _ | assumption | (refine ext_next (by assumption) ?_) | apply ext_alloc | apply ext_past | apply ext_drew | apply ext_drewN))⟩

set_option maxRecDepth 100000 in
set_option maxHeartbeats 4000000 in
theorem nmay_any (c : Cfg) (hok : c.ok) (f v : Int) (h1 : 1 ≤ f) (h2 : f ≤ 13) (w : World) (hL : Lims w) : Calls Tryd.prog 97 #[.agg #[.int .i64 c.co, .int .i64 c.gr, .int .i64 c.se, .int .i64 c.wa, .int .i64 c.de, .int .i64 c.en, .int .i64 c.ba], .int .i64 f, .int .i64 v] w fun e w' => e = .returned (.bool (mayF c f v)) ∧ Below w.heap.size w w' := by
  have HL := Lib.hid hL
  clear hL
  have HLN := Lib.hid (fun (W : World) (hb : Below w.heap.size w W) => show Calls Tryd.prog 17 #[.agg #[.int .i64 c.co, .int .i64 c.gr, .int .i64 c.se, .int .i64 c.wa, .int .i64 c.de, .int .i64 c.en, .int .i64 c.ba]] W (fun e w' => e = .returned (.int .i64 (2 * c.gr)) ∧ Below W.heap.size W w') by have := lines_any c W (HL.out.ext hb); rw [lin_ok hok] at this; exact this)
  rcases f13 h1 h2 with rfl | rfl | rfl | rfl | rfl | rfl | rfl | rfl | rfl | rfl | rfl | rfl | rfl
  · by_cases g1 : 0 ≤ v
    · have e1 : decide (v ≥ 0) = true := by simpa using g1
      go_enter Tryd.func97, Tryd.ntmps97
      go_wp2_with fail
      go_ret
      exact ⟨ret_bool (by rw [Bool.eq_iff_iff]; simp [mayF] <;> omega), (by repeat (with_reducible first | exact Below.refl _ _ | assumption | (refine ext_next (by assumption) ?_) | apply ext_alloc | apply ext_past | apply ext_drew | apply ext_drewN))⟩
    · have e1 : decide (v ≥ 0) = false := by simp; omega
      go_enter Tryd.func97, Tryd.ntmps97
      go_wp2_with fail
      go_ret
      exact ⟨ret_bool (by rw [Bool.eq_iff_iff]; simp [mayF] <;> omega), (by repeat (with_reducible first | exact Below.refl _ _ | assumption | (refine ext_next (by assumption) ?_) | apply ext_alloc | apply ext_past | apply ext_drew | apply ext_drewN))⟩
  · by_cases g1 : 0 ≤ v
    · have e1 : decide (v ≥ 0) = true := by simpa using g1
      go_enter Tryd.func97, Tryd.ntmps97
      go_wp2_with fail
      refine (HLN.out _ (by repeat (with_reducible first | exact Below.refl _ _ | assumption | (refine ext_next (by assumption) ?_) | apply ext_alloc | apply ext_past | apply ext_drew | apply ext_drewN))).mono ?_
      rintro e w1 ⟨rfl, hb⟩
      have HB := Lib.hid hb
      clear hb
      go_wp2_with fail
      go_ret
      exact ⟨ret_bool (by rw [Bool.eq_iff_iff]; simp [mayF] <;> omega), ext_next HB.out (by repeat (with_reducible first | exact Below.refl _ _ | assumption | (refine ext_next (by assumption) ?_) | apply ext_alloc | apply ext_past | apply ext_drew | apply ext_drewN))⟩
    · have e1 : decide (v ≥ 0) = false := by simp; omega
      go_enter Tryd.func97, Tryd.ntmps97
      go_wp2_with fail
      go_ret
      exact ⟨ret_bool (by rw [Bool.eq_iff_iff]; simp [mayF] <;> omega), (by repeat (with_reducible first | exact Below.refl _ _ | assumption | (refine ext_next (by assumption) ?_) | apply ext_alloc | apply ext_past | apply ext_drew | apply ext_drewN))⟩
  · by_cases g1 : 0 ≤ v
    · have e1 : decide (v ≥ 0) = true := by simpa using g1
      go_enter Tryd.func97, Tryd.ntmps97
      go_wp2_with fail
      go_ret
      exact ⟨ret_bool (by rw [Bool.eq_iff_iff]; simp [mayF] <;> omega), (by repeat (with_reducible first | exact Below.refl _ _ | assumption | (refine ext_next (by assumption) ?_) | apply ext_alloc | apply ext_past | apply ext_drew | apply ext_drewN))⟩
    · have e1 : decide (v ≥ 0) = false := by simp; omega
      go_enter Tryd.func97, Tryd.ntmps97
      go_wp2_with fail
      go_ret
      exact ⟨ret_bool (by rw [Bool.eq_iff_iff]; simp [mayF] <;> omega), (by repeat (with_reducible first | exact Below.refl _ _ | assumption | (refine ext_next (by assumption) ?_) | apply ext_alloc | apply ext_past | apply ext_drew | apply ext_drewN))⟩
  · by_cases g1 : 0 ≤ v
    · have e1 : decide (v ≥ 0) = true := by simpa using g1
      go_enter Tryd.func97, Tryd.ntmps97
      go_wp2_with fail
      go_ret
      exact ⟨ret_bool (by rw [Bool.eq_iff_iff]; simp [mayF] <;> omega), (by repeat (with_reducible first | exact Below.refl _ _ | assumption | (refine ext_next (by assumption) ?_) | apply ext_alloc | apply ext_past | apply ext_drew | apply ext_drewN))⟩
    · have e1 : decide (v ≥ 0) = false := by simp; omega
      go_enter Tryd.func97, Tryd.ntmps97
      go_wp2_with fail
      go_ret
      exact ⟨ret_bool (by rw [Bool.eq_iff_iff]; simp [mayF] <;> omega), (by repeat (with_reducible first | exact Below.refl _ _ | assumption | (refine ext_next (by assumption) ?_) | apply ext_alloc | apply ext_past | apply ext_drew | apply ext_drewN))⟩
  · by_cases g1 : 0 ≤ v
    · have e1 : decide (v ≥ 0) = true := by simpa using g1
      go_enter Tryd.func97, Tryd.ntmps97
      go_wp2_with fail
      go_ret
      exact ⟨ret_bool (by rw [Bool.eq_iff_iff]; simp [mayF] <;> omega), (by repeat (with_reducible first | exact Below.refl _ _ | assumption | (refine ext_next (by assumption) ?_) | apply ext_alloc | apply ext_past | apply ext_drew | apply ext_drewN))⟩
    · have e1 : decide (v ≥ 0) = false := by simp; omega
      go_enter Tryd.func97, Tryd.ntmps97
      go_wp2_with fail
      go_ret
      exact ⟨ret_bool (by rw [Bool.eq_iff_iff]; simp [mayF] <;> omega), (by repeat (with_reducible first | exact Below.refl _ _ | assumption | (refine ext_next (by assumption) ?_) | apply ext_alloc | apply ext_past | apply ext_drew | apply ext_drewN))⟩
  · by_cases g1 : v = 1
    · have e1 : (v == 1) = true := by simpa using g1
      go_enter Tryd.func97, Tryd.ntmps97
      go_wp2_with fail
      go_ret
      exact ⟨ret_bool (by rw [Bool.eq_iff_iff]; simp [mayF] <;> omega), (by repeat (with_reducible first | exact Below.refl _ _ | assumption | (refine ext_next (by assumption) ?_) | apply ext_alloc | apply ext_past | apply ext_drew | apply ext_drewN))⟩
    have e1 : (v == 1) = false := by simpa using g1
    by_cases g2 : v = 2
    · have e2 : (v == 2) = true := by simpa using g2
      go_enter Tryd.func97, Tryd.ntmps97
      go_wp2_with fail
      go_ret
      exact ⟨ret_bool (by rw [Bool.eq_iff_iff]; simp [mayF] <;> omega), (by repeat (with_reducible first | exact Below.refl _ _ | assumption | (refine ext_next (by assumption) ?_) | apply ext_alloc | apply ext_past | apply ext_drew | apply ext_drewN))⟩
    have e2 : (v == 2) = false := by simpa using g2
    go_enter Tryd.func97, Tryd.ntmps97
    go_wp2_with fail
    go_ret
    exact ⟨ret_bool (by rw [Bool.eq_iff_iff]; simp [mayF] <;> omega), (by repeat (with_reducible first | exact Below.refl _ _ | assumption | (refine ext_next (by assumption) ?_) | apply ext_alloc | apply ext_past | apply ext_drew | apply ext_drewN))⟩
  · by_cases g1 : v = 0
    · have e1 : (v == 0) = true := by simpa using g1
      go_enter Tryd.func97, Tryd.ntmps97
      go_wp2_with fail
      go_ret
      exact ⟨ret_bool (by rw [Bool.eq_iff_iff]; simp [mayF] <;> omega), (by repeat (with_reducible first | exact Below.refl _ _ | assumption | (refine ext_next (by assumption) ?_) | apply ext_alloc | apply ext_past | apply ext_drew | apply ext_drewN))⟩
    · have e1 : (v == 0) = false := by simpa using g1
      go_enter Tryd.func97, Tryd.ntmps97
      go_wp2_with fail
      go_ret
      exact ⟨ret_bool (by rw [Bool.eq_iff_iff]; simp [mayF] <;> omega), (by repeat (with_reducible first | exact Below.refl _ _ | assumption | (refine ext_next (by assumption) ?_) | apply ext_alloc | apply ext_past | apply ext_drew | apply ext_drewN))⟩
  · go_enter Tryd.func97, Tryd.ntmps97
    go_wp2_with fail
    go_ret
    exact ⟨ret_bool (by simp [mayF]), (by repeat (with_reducible first | exact Below.refl _ _ | assumption | (refine ext_next (by assumption) ?_) | apply ext_alloc | apply ext_past | apply ext_drew | apply ext_drewN))⟩
  · go_enter Tryd.func97, Tryd.ntmps97
    go_wp2_with fail
    go_ret
    exact ⟨ret_bool (by simp [mayF]), (by repeat (with_reducible first | exact Below.refl _ _ | assumption | (refine ext_next (by assumption) ?_) | apply ext_alloc | apply ext_past | apply ext_drew | apply ext_drewN))⟩
  · by_cases g1 : v = 0
    · have e1 : (v == 0) = true := by simpa using g1
      go_enter Tryd.func97, Tryd.ntmps97
      go_wp2_with fail
      go_ret
      exact ⟨ret_bool (by rw [Bool.eq_iff_iff]; simp [mayF] <;> omega), (by repeat (with_reducible first | exact Below.refl _ _ | assumption | (refine ext_next (by assumption) ?_) | apply ext_alloc | apply ext_past | apply ext_drew | apply ext_drewN))⟩
    · have e1 : (v == 0) = false := by simpa using g1
      go_enter Tryd.func97, Tryd.ntmps97
      go_wp2_with fail
      go_ret
      exact ⟨ret_bool (by rw [Bool.eq_iff_iff]; simp [mayF] <;> omega), (by repeat (with_reducible first | exact Below.refl _ _ | assumption | (refine ext_next (by assumption) ?_) | apply ext_alloc | apply ext_past | apply ext_drew | apply ext_drewN))⟩
  · by_cases g1 : v = 0
    · have e1 : (v == 0) = true := by simpa using g1
      go_enter Tryd.func97, Tryd.ntmps97
      go_wp2_with fail
      go_ret
      exact ⟨ret_bool (by rw [Bool.eq_iff_iff]; simp [mayF] <;> omega), (by repeat (with_reducible first | exact Below.refl _ _ | assumption | (refine ext_next (by assumption) ?_) | apply ext_alloc | apply ext_past | apply ext_drew | apply ext_drewN))⟩
    · have e1 : (v == 0) = false := by simpa using g1
      go_enter Tryd.func97, Tryd.ntmps97
      go_wp2_with fail
      go_ret
      exact ⟨ret_bool (by rw [Bool.eq_iff_iff]; simp [mayF] <;> omega), (by repeat (with_reducible first | exact Below.refl _ _ | assumption | (refine ext_next (by assumption) ?_) | apply ext_alloc | apply ext_past | apply ext_drew | apply ext_drewN))⟩
  · by_cases g1 : 0 ≤ v
    · have e1 : decide (v ≥ 0) = true := by simpa using g1
      go_enter Tryd.func97, Tryd.ntmps97
      go_wp2_with fail
      go_ret
      exact ⟨ret_bool (by rw [Bool.eq_iff_iff]; simp [mayF] <;> omega), (by repeat (with_reducible first | exact Below.refl _ _ | assumption | (refine ext_next (by assumption) ?_) | apply ext_alloc | apply ext_past | apply ext_drew | apply ext_drewN))⟩
    · have e1 : decide (v ≥ 0) = false := by simp; omega
      go_enter Tryd.func97, Tryd.ntmps97
      go_wp2_with fail
      go_ret
      exact ⟨ret_bool (by rw [Bool.eq_iff_iff]; simp [mayF] <;> omega), (by repeat (with_reducible first | exact Below.refl _ _ | assumption | (refine ext_next (by assumption) ?_) | apply ext_alloc | apply ext_past | apply ext_drew | apply ext_drewN))⟩
  · by_cases g1 : 0 ≤ v
    · have e1 : decide (v ≥ 0) = true := by simpa using g1
      go_enter Tryd.func97, Tryd.ntmps97
      go_wp2_with fail
      go_ret
      exact ⟨ret_bool (by rw [Bool.eq_iff_iff]; simp [mayF] <;> omega), (by repeat (with_reducible first | exact Below.refl _ _ | assumption | (refine ext_next (by assumption) ?_) | apply ext_alloc | apply ext_past | apply ext_drew | apply ext_drewN))⟩
    · have e1 : decide (v ≥ 0) = false := by simp; omega
      go_enter Tryd.func97, Tryd.ntmps97
      go_wp2_with fail
      go_ret
      exact ⟨ret_bool (by rw [Bool.eq_iff_iff]; simp [mayF] <;> omega), (by repeat (with_reducible first | exact Below.refl _ _ | assumption | (refine ext_next (by assumption) ?_) | apply ext_alloc | apply ext_past | apply ext_drew | apply ext_drewN))⟩

set_option maxRecDepth 100000 in
set_option maxHeartbeats 4000000 in
theorem nset_any (b : Nat) (x : Nt) (f v : Int) (h1 : 1 ≤ f) (h2 : f ≤ 13) (w : World) (hb : BxN w b x) : Calls Tryd.prog 98 #[.pointer (some ⟨b, 0, none⟩), .int .i64 f, .int .i64 v] w fun e w' => (∃ r, e = .returned r) ∧ BxN w' b (setF x f v) ∧ ∃ j u, w' = w.setCell ⟨b, j, none⟩ u := by
  obtain ⟨z0, z1, z2, z3, z4, z5, z6, z7, z8⟩ := hb.cell
  have zf := hb.free
  have zl := hb.lt
  have HBX := Lib.hid hb
  clear hb
  obtain ⟨xk, xc, xl, xw, xs, xa, xb, xd, xn⟩ := x
  dsimp only at z0 z1 z2 z3 z4 z5 z6 z7 z8
  rcases f13 h1 h2 with rfl | rfl | rfl | rfl | rfl | rfl | rfl | rfl | rfl | rfl | rfl | rfl | rfl
  · go_enter Tryd.func98, Tryd.ntmps98
    go_wp2_with fail
    go_end0
    refine ⟨⟨_, rfl⟩, ?_, 1, .int .i64 v, rfl⟩
    have h := Joins.block_setCell (i := 1) HBX.out (.int .i64 v)
    unfold BxN
    simpa [setF] using h
  · go_enter Tryd.func98, Tryd.ntmps98
    go_wp2_with fail
    go_end0
    refine ⟨⟨_, rfl⟩, ?_, 2, .int .i64 v, rfl⟩
    have h := Joins.block_setCell (i := 2) HBX.out (.int .i64 v)
    unfold BxN
    simpa [setF] using h
  · go_enter Tryd.func98, Tryd.ntmps98
    go_wp2_with fail
    go_end0
    refine ⟨⟨_, rfl⟩, ?_, 3, .int .i64 v, rfl⟩
    have h := Joins.block_setCell (i := 3) HBX.out (.int .i64 v)
    unfold BxN
    simpa [setF] using h
  · go_enter Tryd.func98, Tryd.ntmps98
    go_wp2_with fail
    go_end0
    refine ⟨⟨_, rfl⟩, ?_, 3, .int .i64 v, rfl⟩
    have h := Joins.block_setCell (i := 3) HBX.out (.int .i64 v)
    unfold BxN
    simpa [setF] using h
  · go_enter Tryd.func98, Tryd.ntmps98
    go_wp2_with fail
    go_end0
    refine ⟨⟨_, rfl⟩, ?_, 4, .int .i64 v, rfl⟩
    have h := Joins.block_setCell (i := 4) HBX.out (.int .i64 v)
    unfold BxN
    simpa [setF] using h
  · go_enter Tryd.func98, Tryd.ntmps98
    go_wp2_with fail
    go_end0
    refine ⟨⟨_, rfl⟩, ?_, 4, .int .i64 v, rfl⟩
    have h := Joins.block_setCell (i := 4) HBX.out (.int .i64 v)
    unfold BxN
    simpa [setF] using h
  · go_enter Tryd.func98, Tryd.ntmps98
    go_wp2_with fail
    go_end0
    refine ⟨⟨_, rfl⟩, ?_, 4, .int .i64 v, rfl⟩
    have h := Joins.block_setCell (i := 4) HBX.out (.int .i64 v)
    unfold BxN
    simpa [setF] using h
  · go_enter Tryd.func98, Tryd.ntmps98
    go_wp2_with fail
    go_end0
    refine ⟨⟨_, rfl⟩, ?_, 5, .int .i64 v, rfl⟩
    have h := Joins.block_setCell (i := 5) HBX.out (.int .i64 v)
    unfold BxN
    simpa [setF] using h
  · go_enter Tryd.func98, Tryd.ntmps98
    go_wp2_with fail
    go_end0
    refine ⟨⟨_, rfl⟩, ?_, 6, .int .i64 v, rfl⟩
    have h := Joins.block_setCell (i := 6) HBX.out (.int .i64 v)
    unfold BxN
    simpa [setF] using h
  · go_enter Tryd.func98, Tryd.ntmps98
    go_wp2_with fail
    go_end0
    refine ⟨⟨_, rfl⟩, ?_, 7, .bool (v != 0), rfl⟩
    have h := Joins.block_setCell (i := 7) HBX.out (.bool (v != 0))
    unfold BxN
    simpa [setF] using h
  · go_enter Tryd.func98, Tryd.ntmps98
    go_wp2_with fail
    go_end0
    refine ⟨⟨_, rfl⟩, ?_, 8, .int .i64 v, rfl⟩
    have h := Joins.block_setCell (i := 8) HBX.out (.int .i64 v)
    unfold BxN
    simpa [setF] using h
  · go_enter Tryd.func98, Tryd.ntmps98
    go_wp2_with fail
    go_end0
    refine ⟨⟨_, rfl⟩, ?_, 8, .int .i64 v, rfl⟩
    have h := Joins.block_setCell (i := 8) HBX.out (.int .i64 v)
    unfold BxN
    simpa [setF] using h
  · go_enter Tryd.func98, Tryd.ntmps98
    go_wp2_with fail
    go_end0
    refine ⟨⟨_, rfl⟩, ?_, 8, .int .i64 v, rfl⟩
    have h := Joins.block_setCell (i := 8) HBX.out (.int .i64 v)
    unfold BxN
    simpa [setF] using h

end Go.Proofs.YtkfnjpmigifomaaDoor
