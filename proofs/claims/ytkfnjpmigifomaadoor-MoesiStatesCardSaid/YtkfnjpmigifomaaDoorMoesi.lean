/- What this text holds: what the functions of package moesi answer about one state. Condition: the table of states holds what its initialiser lays. -/
import Derived.Test.YtkfnjpmigifomaaDoorKit
namespace Go.Proofs.YtkfnjpmigifomaaDoor
open Go.RowKit

/-- The table of states, as its initialiser lays it. -/
def Rws (w : World) : Prop := ∃ t fr, w.heap[(0 : Nat)]? = some (.cells #[.string ⟨#[73]⟩, .bool false, .bool false, .bool false, .bool false, .int .i64 0, .int .i64 0, .int .i64 0, .string ⟨#[83]⟩, .bool true, .bool false, .bool false, .bool false, .int .i64 0, .int .i64 1, .int .i64 0, .string ⟨#[69]⟩, .bool true, .bool true, .bool false, .bool true, .int .i64 4, .int .i64 1, .int .i64 0, .string ⟨#[79]⟩, .bool true, .bool false, .bool true, .bool true, .int .i64 0, .int .i64 3, .int .i64 0, .string ⟨#[77]⟩, .bool true, .bool true, .bool true, .bool true, .int .i64 4, .int .i64 3, .int .i64 0] t fr)
theorem Rws.lt {w : World} (h : Rws w) : 0 < w.heap.size := by obtain ⟨_, _, h⟩ := h; exact (Array.getElem?_eq_some_iff.1 h).1
theorem Rws.below {B : Nat} {w w' : World} (h : Rws w) (hb : Below B w w') (hB : 0 < B) : Rws w' := by
  obtain ⟨t, fr, h⟩ := h; exact ⟨t, fr, (hb.block _ hB).trans h⟩
theorem Rws.ext {w w' : World} (hb : Below w.heap.size w w') (h : Rws w) : Rws w' := h.below hb h.lt
theorem Rws.alloc {w : World} (h : Rws w) (o : Obj) : Rws (w.alloc o) := by
  have hl := h.lt
  obtain ⟨t, fr, h⟩ := h; exact ⟨t, fr, (Below.heap_alloc w o _ hl).trans h⟩
theorem Rws.drew {w : World} (h : Rws w) : Rws w.drew := h
theorem Rws.drewN {w : World} (h : Rws w) (n : Nat) : Rws (w.drewN n) := h
theorem Rws.past {w : World} (h : Rws w) (p : Past w) : Rws p.val := h.below p.below h.lt
theorem Rws.cell {w : World} (h : Rws w) (i : Nat) : w.cell? ⟨0, i, none⟩ = (#[.string ⟨#[73]⟩, .bool false, .bool false, .bool false, .bool false, .int .i64 0, .int .i64 0, .int .i64 0, .string ⟨#[83]⟩, .bool true, .bool false, .bool false, .bool false, .int .i64 0, .int .i64 1, .int .i64 0, .string ⟨#[69]⟩, .bool true, .bool true, .bool false, .bool true, .int .i64 4, .int .i64 1, .int .i64 0, .string ⟨#[79]⟩, .bool true, .bool false, .bool true, .bool true, .int .i64 0, .int .i64 3, .int .i64 0, .string ⟨#[77]⟩, .bool true, .bool true, .bool true, .bool true, .int .i64 4, .int .i64 3, .int .i64 0] : Array Value)[i]? := by
  obtain ⟨t, fr, h⟩ := h; exact cell_of_row w _ i _ t fr h

/-- The states. -/
def isB (s : Int) : Bool := decide (0 ≤ s ∧ s < 5)
def vB (s : Int) : Bool := decide (1 ≤ s ∧ s < 5)
def stB (s : Int) : Bool := decide (s = 2 ∨ s = 4)
def dtB (s : Int) : Bool := decide (s = 3 ∨ s = 4)
def owB (s : Int) : Bool := decide (2 ≤ s ∧ s < 5)
/-- What a probe to Sharing leaves. -/
def prS (s : Int) : Int := if s = 1 ∨ s = 2 then 1 else if s = 3 ∨ s = 4 then 3 else 0

theorem five (s : Int) : s < 0 ∨ s = 0 ∨ s = 1 ∨ s = 2 ∨ s = 3 ∨ s = 4 ∨ 4 < s := by omega
theorem isB_no {s : Int} (h : s < 0 ∨ 4 < s) : isB s = false := by simp only [isB, decide_eq_false_iff_not]; omega
theorem isB_yes {s : Int} (h : 0 ≤ s) (h2 : s < 5) : isB s = true := by simp only [isB, decide_eq_true_eq]; omega
theorem vB_no {s : Int} (h : s < 0 ∨ 4 < s) : vB s = false := by simp only [vB, decide_eq_false_iff_not]; omega
theorem stB_no {s : Int} (h : s < 0 ∨ 4 < s) : stB s = false := by simp only [stB, decide_eq_false_iff_not]; omega
theorem dtB_no {s : Int} (h : s < 0 ∨ 4 < s) : dtB s = false := by simp only [dtB, decide_eq_false_iff_not]; omega
theorem owB_no {s : Int} (h : s < 0 ∨ 4 < s) : owB s = false := by simp only [owB, decide_eq_false_iff_not]; omega

theorem is_any (s : Int) (w : World) : Calls Tryd.prog 85 #[.int .i64 s] w fun e w' => e = .returned (.bool (isB s)) ∧ w = w' := by
  by_cases h : s < 0
  · have e := Lib.hid (isB_no (.inl h))
    go_enter Tryd.func85, Tryd.ntmps85
    go_wp2
    go_ret
    exact ⟨ret_bool (by rw [e.out]), rfl⟩
  · by_cases h2 : s < 5
    · have e := Lib.hid (isB_yes (s := s) (by omega) h2)
      go_enter Tryd.func85, Tryd.ntmps85
      go_wp2
      go_ret
      exact ⟨ret_bool (by first | (rw [e.out]; done) | (rw [e.out]; simp; done) | (rw [e.out]; simp; omega)), rfl⟩
    · have e := Lib.hid (isB_no (s := s) (.inr (by omega)))
      go_enter Tryd.func85, Tryd.ntmps85
      go_wp2
      go_ret
      exact ⟨ret_bool (by first | (rw [e.out]; done) | (rw [e.out]; simp; done) | (rw [e.out]; simp; omega)), rfl⟩

theorem valid_no (s : Int) (w : World) (h : s < 0 ∨ 4 < s) : Calls Tryd.prog 44 #[.int .i64 s] w fun e w' => e = .returned (.bool (vB s)) ∧ w = w' := by
  have e1 := isB_no h
  have e2 := Lib.hid (vB_no h)
  clear h
  go_enter Tryd.func44, Tryd.ntmps44
  go_wp2_with (go_at_call 85; refine (is_any s _).mono ?_; rintro e w' ⟨rfl, rfl⟩)
  go_ret
  exact ⟨ret_bool (by rw [e2.out]), rfl⟩
theorem valid_0 (w : World) (_hR : Rws w) : Calls Tryd.prog 44 #[.int .i64 0] w fun e w' => e = .returned (.bool (vB 0)) ∧ w = w' := by
  have e1 : isB 0 = true := by decide
  go_enter Tryd.func44, Tryd.ntmps44
  go_wp2_with (go_at_call 85; refine (is_any 0 _).mono ?_; rintro e w' ⟨rfl, rfl⟩)
  go_ret
  exact ⟨ret_bool (by decide), rfl⟩
theorem valid_1 (w : World) (_hR : Rws w) : Calls Tryd.prog 44 #[.int .i64 1] w fun e w' => e = .returned (.bool (vB 1)) ∧ w = w' := by
  have e1 : isB 1 = true := by decide
  go_enter Tryd.func44, Tryd.ntmps44
  go_wp2_with (go_at_call 85; refine (is_any 1 _).mono ?_; rintro e w' ⟨rfl, rfl⟩)
  go_ret
  exact ⟨ret_bool (by decide), rfl⟩
theorem valid_2 (w : World) (_hR : Rws w) : Calls Tryd.prog 44 #[.int .i64 2] w fun e w' => e = .returned (.bool (vB 2)) ∧ w = w' := by
  have e1 : isB 2 = true := by decide
  go_enter Tryd.func44, Tryd.ntmps44
  go_wp2_with (go_at_call 85; refine (is_any 2 _).mono ?_; rintro e w' ⟨rfl, rfl⟩)
  go_ret
  exact ⟨ret_bool (by decide), rfl⟩
theorem valid_3 (w : World) (_hR : Rws w) : Calls Tryd.prog 44 #[.int .i64 3] w fun e w' => e = .returned (.bool (vB 3)) ∧ w = w' := by
  have e1 : isB 3 = true := by decide
  go_enter Tryd.func44, Tryd.ntmps44
  go_wp2_with (go_at_call 85; refine (is_any 3 _).mono ?_; rintro e w' ⟨rfl, rfl⟩)
  go_ret
  exact ⟨ret_bool (by decide), rfl⟩
theorem valid_4 (w : World) (_hR : Rws w) : Calls Tryd.prog 44 #[.int .i64 4] w fun e w' => e = .returned (.bool (vB 4)) ∧ w = w' := by
  have e1 : isB 4 = true := by decide
  go_enter Tryd.func44, Tryd.ntmps44
  go_wp2_with (go_at_call 85; refine (is_any 4 _).mono ?_; rintro e w' ⟨rfl, rfl⟩)
  go_ret
  exact ⟨ret_bool (by decide), rfl⟩
theorem valid_any (s : Int) (w : World) (hR : Rws w) : Calls Tryd.prog 44 #[.int .i64 s] w fun e w' => e = .returned (.bool (vB s)) ∧ w = w' := by
  rcases five s with h | rfl | rfl | rfl | rfl | rfl | h
  · exact valid_no s w (.inl h)
  · exact valid_0 w hR
  · exact valid_1 w hR
  · exact valid_2 w hR
  · exact valid_3 w hR
  · exact valid_4 w hR
  · exact valid_no s w (.inr h)

theorem load_no (s : Int) (w : World) (h : s < 0 ∨ 4 < s) : Calls Tryd.prog 46 #[.int .i64 s] w fun e w' => e = .returned (.bool (vB s)) ∧ w = w' := by
  have e1 := isB_no h
  have e2 := Lib.hid (vB_no h)
  clear h
  go_enter Tryd.func46, Tryd.ntmps46
  go_wp2_with (go_at_call 85; refine (is_any s _).mono ?_; rintro e w' ⟨rfl, rfl⟩)
  go_ret
  exact ⟨ret_bool (by rw [e2.out]), rfl⟩
theorem load_0 (w : World) (hR : Rws w) : Calls Tryd.prog 46 #[.int .i64 0] w fun e w' => e = .returned (.bool (vB 0)) ∧ w = w' := by
  have c1 := hR.cell 1
  simp only [List.getElem?_toArray, List.getElem?_cons_succ, List.getElem?_cons_zero] at c1
  have e1 : isB 0 = true := by decide
  go_enter Tryd.func46, Tryd.ntmps46
  go_wp2_with (go_at_call 85; refine (is_any 0 _).mono ?_; rintro e w' ⟨rfl, rfl⟩)
  go_ret
  exact ⟨ret_bool (by decide), rfl⟩
theorem load_1 (w : World) (hR : Rws w) : Calls Tryd.prog 46 #[.int .i64 1] w fun e w' => e = .returned (.bool (vB 1)) ∧ w = w' := by
  have c1 := hR.cell 9
  simp only [List.getElem?_toArray, List.getElem?_cons_succ, List.getElem?_cons_zero] at c1
  have e1 : isB 1 = true := by decide
  go_enter Tryd.func46, Tryd.ntmps46
  go_wp2_with (go_at_call 85; refine (is_any 1 _).mono ?_; rintro e w' ⟨rfl, rfl⟩)
  go_ret
  exact ⟨ret_bool (by decide), rfl⟩
theorem load_2 (w : World) (hR : Rws w) : Calls Tryd.prog 46 #[.int .i64 2] w fun e w' => e = .returned (.bool (vB 2)) ∧ w = w' := by
  have c1 := hR.cell 17
  simp only [List.getElem?_toArray, List.getElem?_cons_succ, List.getElem?_cons_zero] at c1
  have e1 : isB 2 = true := by decide
  go_enter Tryd.func46, Tryd.ntmps46
  go_wp2_with (go_at_call 85; refine (is_any 2 _).mono ?_; rintro e w' ⟨rfl, rfl⟩)
  go_ret
  exact ⟨ret_bool (by decide), rfl⟩
theorem load_3 (w : World) (hR : Rws w) : Calls Tryd.prog 46 #[.int .i64 3] w fun e w' => e = .returned (.bool (vB 3)) ∧ w = w' := by
  have c1 := hR.cell 25
  simp only [List.getElem?_toArray, List.getElem?_cons_succ, List.getElem?_cons_zero] at c1
  have e1 : isB 3 = true := by decide
  go_enter Tryd.func46, Tryd.ntmps46
  go_wp2_with (go_at_call 85; refine (is_any 3 _).mono ?_; rintro e w' ⟨rfl, rfl⟩)
  go_ret
  exact ⟨ret_bool (by decide), rfl⟩
theorem load_4 (w : World) (hR : Rws w) : Calls Tryd.prog 46 #[.int .i64 4] w fun e w' => e = .returned (.bool (vB 4)) ∧ w = w' := by
  have c1 := hR.cell 33
  simp only [List.getElem?_toArray, List.getElem?_cons_succ, List.getElem?_cons_zero] at c1
  have e1 : isB 4 = true := by decide
  go_enter Tryd.func46, Tryd.ntmps46
  go_wp2_with (go_at_call 85; refine (is_any 4 _).mono ?_; rintro e w' ⟨rfl, rfl⟩)
  go_ret
  exact ⟨ret_bool (by decide), rfl⟩
theorem load_any (s : Int) (w : World) (hR : Rws w) : Calls Tryd.prog 46 #[.int .i64 s] w fun e w' => e = .returned (.bool (vB s)) ∧ w = w' := by
  rcases five s with h | rfl | rfl | rfl | rfl | rfl | h
  · exact load_no s w (.inl h)
  · exact load_0 w hR
  · exact load_1 w hR
  · exact load_2 w hR
  · exact load_3 w hR
  · exact load_4 w hR
  · exact load_no s w (.inr h)

theorem store_no (s : Int) (w : World) (h : s < 0 ∨ 4 < s) : Calls Tryd.prog 47 #[.int .i64 s] w fun e w' => e = .returned (.bool (stB s)) ∧ w = w' := by
  have e1 := isB_no h
  have e2 := Lib.hid (stB_no h)
  clear h
  go_enter Tryd.func47, Tryd.ntmps47
  go_wp2_with (go_at_call 85; refine (is_any s _).mono ?_; rintro e w' ⟨rfl, rfl⟩)
  go_ret
  exact ⟨ret_bool (by rw [e2.out]), rfl⟩
theorem store_0 (w : World) (hR : Rws w) : Calls Tryd.prog 47 #[.int .i64 0] w fun e w' => e = .returned (.bool (stB 0)) ∧ w = w' := by
  have c1 := hR.cell 2
  simp only [List.getElem?_toArray, List.getElem?_cons_succ, List.getElem?_cons_zero] at c1
  have e1 : isB 0 = true := by decide
  go_enter Tryd.func47, Tryd.ntmps47
  go_wp2_with (go_at_call 85; refine (is_any 0 _).mono ?_; rintro e w' ⟨rfl, rfl⟩)
  go_ret
  exact ⟨ret_bool (by decide), rfl⟩
theorem store_1 (w : World) (hR : Rws w) : Calls Tryd.prog 47 #[.int .i64 1] w fun e w' => e = .returned (.bool (stB 1)) ∧ w = w' := by
  have c1 := hR.cell 10
  simp only [List.getElem?_toArray, List.getElem?_cons_succ, List.getElem?_cons_zero] at c1
  have e1 : isB 1 = true := by decide
  go_enter Tryd.func47, Tryd.ntmps47
  go_wp2_with (go_at_call 85; refine (is_any 1 _).mono ?_; rintro e w' ⟨rfl, rfl⟩)
  go_ret
  exact ⟨ret_bool (by decide), rfl⟩
theorem store_2 (w : World) (hR : Rws w) : Calls Tryd.prog 47 #[.int .i64 2] w fun e w' => e = .returned (.bool (stB 2)) ∧ w = w' := by
  have c1 := hR.cell 18
  simp only [List.getElem?_toArray, List.getElem?_cons_succ, List.getElem?_cons_zero] at c1
  have e1 : isB 2 = true := by decide
  go_enter Tryd.func47, Tryd.ntmps47
  go_wp2_with (go_at_call 85; refine (is_any 2 _).mono ?_; rintro e w' ⟨rfl, rfl⟩)
  go_ret
  exact ⟨ret_bool (by decide), rfl⟩
theorem store_3 (w : World) (hR : Rws w) : Calls Tryd.prog 47 #[.int .i64 3] w fun e w' => e = .returned (.bool (stB 3)) ∧ w = w' := by
  have c1 := hR.cell 26
  simp only [List.getElem?_toArray, List.getElem?_cons_succ, List.getElem?_cons_zero] at c1
  have e1 : isB 3 = true := by decide
  go_enter Tryd.func47, Tryd.ntmps47
  go_wp2_with (go_at_call 85; refine (is_any 3 _).mono ?_; rintro e w' ⟨rfl, rfl⟩)
  go_ret
  exact ⟨ret_bool (by decide), rfl⟩
theorem store_4 (w : World) (hR : Rws w) : Calls Tryd.prog 47 #[.int .i64 4] w fun e w' => e = .returned (.bool (stB 4)) ∧ w = w' := by
  have c1 := hR.cell 34
  simp only [List.getElem?_toArray, List.getElem?_cons_succ, List.getElem?_cons_zero] at c1
  have e1 : isB 4 = true := by decide
  go_enter Tryd.func47, Tryd.ntmps47
  go_wp2_with (go_at_call 85; refine (is_any 4 _).mono ?_; rintro e w' ⟨rfl, rfl⟩)
  go_ret
  exact ⟨ret_bool (by decide), rfl⟩
theorem store_any (s : Int) (w : World) (hR : Rws w) : Calls Tryd.prog 47 #[.int .i64 s] w fun e w' => e = .returned (.bool (stB s)) ∧ w = w' := by
  rcases five s with h | rfl | rfl | rfl | rfl | rfl | h
  · exact store_no s w (.inl h)
  · exact store_0 w hR
  · exact store_1 w hR
  · exact store_2 w hR
  · exact store_3 w hR
  · exact store_4 w hR
  · exact store_no s w (.inr h)

theorem dirty_no (s : Int) (w : World) (h : s < 0 ∨ 4 < s) : Calls Tryd.prog 49 #[.int .i64 s] w fun e w' => e = .returned (.bool (dtB s)) ∧ w = w' := by
  have e1 := isB_no h
  have e2 := Lib.hid (dtB_no h)
  clear h
  go_enter Tryd.func49, Tryd.ntmps49
  go_wp2_with (go_at_call 85; refine (is_any s _).mono ?_; rintro e w' ⟨rfl, rfl⟩)
  go_ret
  exact ⟨ret_bool (by rw [e2.out]), rfl⟩
theorem dirty_0 (w : World) (hR : Rws w) : Calls Tryd.prog 49 #[.int .i64 0] w fun e w' => e = .returned (.bool (dtB 0)) ∧ w = w' := by
  have c1 := hR.cell 3
  simp only [List.getElem?_toArray, List.getElem?_cons_succ, List.getElem?_cons_zero] at c1
  have e1 : isB 0 = true := by decide
  go_enter Tryd.func49, Tryd.ntmps49
  go_wp2_with (go_at_call 85; refine (is_any 0 _).mono ?_; rintro e w' ⟨rfl, rfl⟩)
  go_ret
  exact ⟨ret_bool (by decide), rfl⟩
theorem dirty_1 (w : World) (hR : Rws w) : Calls Tryd.prog 49 #[.int .i64 1] w fun e w' => e = .returned (.bool (dtB 1)) ∧ w = w' := by
  have c1 := hR.cell 11
  simp only [List.getElem?_toArray, List.getElem?_cons_succ, List.getElem?_cons_zero] at c1
  have e1 : isB 1 = true := by decide
  go_enter Tryd.func49, Tryd.ntmps49
  go_wp2_with (go_at_call 85; refine (is_any 1 _).mono ?_; rintro e w' ⟨rfl, rfl⟩)
  go_ret
  exact ⟨ret_bool (by decide), rfl⟩
theorem dirty_2 (w : World) (hR : Rws w) : Calls Tryd.prog 49 #[.int .i64 2] w fun e w' => e = .returned (.bool (dtB 2)) ∧ w = w' := by
  have c1 := hR.cell 19
  simp only [List.getElem?_toArray, List.getElem?_cons_succ, List.getElem?_cons_zero] at c1
  have e1 : isB 2 = true := by decide
  go_enter Tryd.func49, Tryd.ntmps49
  go_wp2_with (go_at_call 85; refine (is_any 2 _).mono ?_; rintro e w' ⟨rfl, rfl⟩)
  go_ret
  exact ⟨ret_bool (by decide), rfl⟩
theorem dirty_3 (w : World) (hR : Rws w) : Calls Tryd.prog 49 #[.int .i64 3] w fun e w' => e = .returned (.bool (dtB 3)) ∧ w = w' := by
  have c1 := hR.cell 27
  simp only [List.getElem?_toArray, List.getElem?_cons_succ, List.getElem?_cons_zero] at c1
  have e1 : isB 3 = true := by decide
  go_enter Tryd.func49, Tryd.ntmps49
  go_wp2_with (go_at_call 85; refine (is_any 3 _).mono ?_; rintro e w' ⟨rfl, rfl⟩)
  go_ret
  exact ⟨ret_bool (by decide), rfl⟩
theorem dirty_4 (w : World) (hR : Rws w) : Calls Tryd.prog 49 #[.int .i64 4] w fun e w' => e = .returned (.bool (dtB 4)) ∧ w = w' := by
  have c1 := hR.cell 35
  simp only [List.getElem?_toArray, List.getElem?_cons_succ, List.getElem?_cons_zero] at c1
  have e1 : isB 4 = true := by decide
  go_enter Tryd.func49, Tryd.ntmps49
  go_wp2_with (go_at_call 85; refine (is_any 4 _).mono ?_; rintro e w' ⟨rfl, rfl⟩)
  go_ret
  exact ⟨ret_bool (by decide), rfl⟩
theorem dirty_any (s : Int) (w : World) (hR : Rws w) : Calls Tryd.prog 49 #[.int .i64 s] w fun e w' => e = .returned (.bool (dtB s)) ∧ w = w' := by
  rcases five s with h | rfl | rfl | rfl | rfl | rfl | h
  · exact dirty_no s w (.inl h)
  · exact dirty_0 w hR
  · exact dirty_1 w hR
  · exact dirty_2 w hR
  · exact dirty_3 w hR
  · exact dirty_4 w hR
  · exact dirty_no s w (.inr h)

theorem owner_no (s : Int) (w : World) (h : s < 0 ∨ 4 < s) : Calls Tryd.prog 51 #[.int .i64 s] w fun e w' => e = .returned (.bool (owB s)) ∧ w = w' := by
  have e1 := isB_no h
  have e2 := Lib.hid (owB_no h)
  clear h
  go_enter Tryd.func51, Tryd.ntmps51
  go_wp2_with (go_at_call 85; refine (is_any s _).mono ?_; rintro e w' ⟨rfl, rfl⟩)
  go_ret
  exact ⟨ret_bool (by rw [e2.out]), rfl⟩
theorem owner_0 (w : World) (hR : Rws w) : Calls Tryd.prog 51 #[.int .i64 0] w fun e w' => e = .returned (.bool (owB 0)) ∧ w = w' := by
  have c1 := hR.cell 4
  simp only [List.getElem?_toArray, List.getElem?_cons_succ, List.getElem?_cons_zero] at c1
  have e1 : isB 0 = true := by decide
  go_enter Tryd.func51, Tryd.ntmps51
  go_wp2_with (go_at_call 85; refine (is_any 0 _).mono ?_; rintro e w' ⟨rfl, rfl⟩)
  go_ret
  exact ⟨ret_bool (by decide), rfl⟩
theorem owner_1 (w : World) (hR : Rws w) : Calls Tryd.prog 51 #[.int .i64 1] w fun e w' => e = .returned (.bool (owB 1)) ∧ w = w' := by
  have c1 := hR.cell 12
  simp only [List.getElem?_toArray, List.getElem?_cons_succ, List.getElem?_cons_zero] at c1
  have e1 : isB 1 = true := by decide
  go_enter Tryd.func51, Tryd.ntmps51
  go_wp2_with (go_at_call 85; refine (is_any 1 _).mono ?_; rintro e w' ⟨rfl, rfl⟩)
  go_ret
  exact ⟨ret_bool (by decide), rfl⟩
theorem owner_2 (w : World) (hR : Rws w) : Calls Tryd.prog 51 #[.int .i64 2] w fun e w' => e = .returned (.bool (owB 2)) ∧ w = w' := by
  have c1 := hR.cell 20
  simp only [List.getElem?_toArray, List.getElem?_cons_succ, List.getElem?_cons_zero] at c1
  have e1 : isB 2 = true := by decide
  go_enter Tryd.func51, Tryd.ntmps51
  go_wp2_with (go_at_call 85; refine (is_any 2 _).mono ?_; rintro e w' ⟨rfl, rfl⟩)
  go_ret
  exact ⟨ret_bool (by decide), rfl⟩
theorem owner_3 (w : World) (hR : Rws w) : Calls Tryd.prog 51 #[.int .i64 3] w fun e w' => e = .returned (.bool (owB 3)) ∧ w = w' := by
  have c1 := hR.cell 28
  simp only [List.getElem?_toArray, List.getElem?_cons_succ, List.getElem?_cons_zero] at c1
  have e1 : isB 3 = true := by decide
  go_enter Tryd.func51, Tryd.ntmps51
  go_wp2_with (go_at_call 85; refine (is_any 3 _).mono ?_; rintro e w' ⟨rfl, rfl⟩)
  go_ret
  exact ⟨ret_bool (by decide), rfl⟩
theorem owner_4 (w : World) (hR : Rws w) : Calls Tryd.prog 51 #[.int .i64 4] w fun e w' => e = .returned (.bool (owB 4)) ∧ w = w' := by
  have c1 := hR.cell 36
  simp only [List.getElem?_toArray, List.getElem?_cons_succ, List.getElem?_cons_zero] at c1
  have e1 : isB 4 = true := by decide
  go_enter Tryd.func51, Tryd.ntmps51
  go_wp2_with (go_at_call 85; refine (is_any 4 _).mono ?_; rintro e w' ⟨rfl, rfl⟩)
  go_ret
  exact ⟨ret_bool (by decide), rfl⟩
theorem owner_any (s : Int) (w : World) (hR : Rws w) : Calls Tryd.prog 51 #[.int .i64 s] w fun e w' => e = .returned (.bool (owB s)) ∧ w = w' := by
  rcases five s with h | rfl | rfl | rfl | rfl | rfl | h
  · exact owner_no s w (.inl h)
  · exact owner_0 w hR
  · exact owner_1 w hR
  · exact owner_2 w hR
  · exact owner_3 w hR
  · exact owner_4 w hR
  · exact owner_no s w (.inr h)

end Go.Proofs.YtkfnjpmigifomaaDoor
