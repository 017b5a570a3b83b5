/- What this text holds: what becomes of one state by a store, or a probe. Condition: the table of states holds what its initialiser lays. -/
import Derived.Test.YtkfnjpmigifomaaDoorMoesi
namespace Go.Proofs.YtkfnjpmigifomaaDoor
open Go.RowKit

theorem results_tmp4 {fn : Func} {t u v x : Tmp} (h : fn.results = #[.tmp t, .tmp u, .tmp v, .tmp x]) (tmps : Array Value) (P : Program) (w : World) :
    (results fn tmps).run P w = .ok (.tuple #[tmps.getD t undef, tmps.getD u undef, tmps.getD v undef, tmps.getD x undef]) w := by simp [results, h]

/-- The state behind a probe. -/
def prN (s to : Int) : Int := if to = 1 then prS s else 0
theorem wrote_no (s : Int) (w : World) (h : s < 0 ∨ 4 < s) : Calls Tryd.prog 55 #[.int .i64 s] w fun e w' => e = .returned (.tuple #[.int .i64 0, .int .i64 10]) ∧ w = w' := by
  have e1 := isB_no h
  clear h
  go_enter Tryd.func55, Tryd.ntmps55
  go_wp2_with (go_at_call 85; refine (is_any s _).mono ?_; rintro e w' ⟨rfl, rfl⟩)
  go_ret2
  exact ⟨rfl, rfl⟩
theorem wrote_0 (w : World) (hR : Rws w) : Calls Tryd.prog 55 #[.int .i64 0] w fun e w' => e = .returned (.tuple #[.int .i64 0, .int .i64 16]) ∧ w = w' := by
  have c5 := hR.cell 5
  simp only [List.getElem?_toArray, List.getElem?_cons_succ, List.getElem?_cons_zero] at c5
  have e1 : isB 0 = true := by decide
  have e2 : stB 0 = false := by decide
  go_enter Tryd.func55, Tryd.ntmps55
  go_wp2_with (first | (go_at_call 85; refine (is_any 0 _).mono ?_; rintro e w' ⟨rfl, rfl⟩) | (go_at_call 47; refine (store_any 0 _ hR).mono ?_; rintro e w' ⟨rfl, rfl⟩))
  go_ret2
  exact ⟨rfl, rfl⟩
theorem wrote_1 (w : World) (hR : Rws w) : Calls Tryd.prog 55 #[.int .i64 1] w fun e w' => e = .returned (.tuple #[.int .i64 0, .int .i64 16]) ∧ w = w' := by
  have c13 := hR.cell 13
  simp only [List.getElem?_toArray, List.getElem?_cons_succ, List.getElem?_cons_zero] at c13
  have e1 : isB 1 = true := by decide
  have e2 : stB 1 = false := by decide
  go_enter Tryd.func55, Tryd.ntmps55
  go_wp2_with (first | (go_at_call 85; refine (is_any 1 _).mono ?_; rintro e w' ⟨rfl, rfl⟩) | (go_at_call 47; refine (store_any 1 _ hR).mono ?_; rintro e w' ⟨rfl, rfl⟩))
  go_ret2
  exact ⟨rfl, rfl⟩
theorem wrote_2 (w : World) (hR : Rws w) : Calls Tryd.prog 55 #[.int .i64 2] w fun e w' => e = .returned (.tuple #[.int .i64 4, .int .i64 0]) ∧ w = w' := by
  have c21 := hR.cell 21
  simp only [List.getElem?_toArray, List.getElem?_cons_succ, List.getElem?_cons_zero] at c21
  have e1 : isB 2 = true := by decide
  have e2 : stB 2 = true := by decide
  go_enter Tryd.func55, Tryd.ntmps55
  go_wp2_with (first | (go_at_call 85; refine (is_any 2 _).mono ?_; rintro e w' ⟨rfl, rfl⟩) | (go_at_call 47; refine (store_any 2 _ hR).mono ?_; rintro e w' ⟨rfl, rfl⟩))
  go_ret2
  exact ⟨rfl, rfl⟩
theorem wrote_3 (w : World) (hR : Rws w) : Calls Tryd.prog 55 #[.int .i64 3] w fun e w' => e = .returned (.tuple #[.int .i64 0, .int .i64 16]) ∧ w = w' := by
  have c29 := hR.cell 29
  simp only [List.getElem?_toArray, List.getElem?_cons_succ, List.getElem?_cons_zero] at c29
  have e1 : isB 3 = true := by decide
  have e2 : stB 3 = false := by decide
  go_enter Tryd.func55, Tryd.ntmps55
  go_wp2_with (first | (go_at_call 85; refine (is_any 3 _).mono ?_; rintro e w' ⟨rfl, rfl⟩) | (go_at_call 47; refine (store_any 3 _ hR).mono ?_; rintro e w' ⟨rfl, rfl⟩))
  go_ret2
  exact ⟨rfl, rfl⟩
theorem wrote_4 (w : World) (hR : Rws w) : Calls Tryd.prog 55 #[.int .i64 4] w fun e w' => e = .returned (.tuple #[.int .i64 4, .int .i64 0]) ∧ w = w' := by
  have c37 := hR.cell 37
  simp only [List.getElem?_toArray, List.getElem?_cons_succ, List.getElem?_cons_zero] at c37
  have e1 : isB 4 = true := by decide
  have e2 : stB 4 = true := by decide
  go_enter Tryd.func55, Tryd.ntmps55
  go_wp2_with (first | (go_at_call 85; refine (is_any 4 _).mono ?_; rintro e w' ⟨rfl, rfl⟩) | (go_at_call 47; refine (store_any 4 _ hR).mono ?_; rintro e w' ⟨rfl, rfl⟩))
  go_ret2
  exact ⟨rfl, rfl⟩
theorem probe_no (s to : Int) (w : World) (h : s < 0 ∨ 4 < s) : Calls Tryd.prog 87 #[.int .i64 s, .int .i64 to] w fun e w' => e = .returned (.tuple #[.int .i64 0, .bool false, .bool false, .int .i64 10]) ∧ w = w' := by
  have e1 := isB_no h
  clear h
  go_enter Tryd.func87, Tryd.ntmps87
  go_wp2_with (go_at_call 85; refine (is_any s _).mono ?_; rintro e w' ⟨rfl, rfl⟩)
  refine bodyPost_ret (results_tmp4 rfl _ _ _) rfl ?_
  exact ⟨rfl, rfl⟩
theorem probe_to (s to : Int) (w : World) (h0 : 0 ≤ s) (h1 : s < 5) (h2 : (to == 0) = false) (h3 : (to == 1) = false) : Calls Tryd.prog 87 #[.int .i64 s, .int .i64 to] w fun e w' => e = .returned (.tuple #[.int .i64 0, .bool false, .bool false, .int .i64 10]) ∧ w = w' := by
  have e1 := isB_yes h0 h1
  have h2' : (to != 0) = true := by simp [bne, h2]
  have h3' : (to != 1) = true := by simp [bne, h3]
  go_enter Tryd.func87, Tryd.ntmps87
  go_wp2_with (go_at_call 85; refine (is_any s _).mono ?_; rintro e w' ⟨rfl, rfl⟩)
  refine bodyPost_ret (results_tmp4 rfl _ _ _) rfl ?_
  exact ⟨rfl, rfl⟩
theorem probe_0_0 (w : World) (hR : Rws w) : Calls Tryd.prog 87 #[.int .i64 0, .int .i64 0] w fun e w' => e = .returned (.tuple #[.int .i64 0, .bool false, .bool false, .int .i64 0]) ∧ w = w' := by
  have c7 := hR.cell 7
  simp only [List.getElem?_toArray, List.getElem?_cons_succ, List.getElem?_cons_zero] at c7
  have e1 : isB 0 = true := by decide
  have e2 : owB 0 = false := by decide
  have e3 : dtB 0 = false := by decide
  go_enter Tryd.func87, Tryd.ntmps87
  go_wp2_with (first | (go_at_call 85; refine (is_any 0 _).mono ?_; rintro e w' ⟨rfl, rfl⟩) | (go_at_call 51; refine (owner_any 0 _ hR).mono ?_; rintro e w' ⟨rfl, rfl⟩) | (go_at_call 49; refine (dirty_any 0 _ hR).mono ?_; rintro e w' ⟨rfl, rfl⟩))
  refine bodyPost_ret (results_tmp4 rfl _ _ _) rfl ?_
  exact ⟨rfl, rfl⟩
theorem probe_0_1 (w : World) (hR : Rws w) : Calls Tryd.prog 87 #[.int .i64 0, .int .i64 1] w fun e w' => e = .returned (.tuple #[.int .i64 0, .bool false, .bool false, .int .i64 0]) ∧ w = w' := by
  have c7 := hR.cell 7
  simp only [List.getElem?_toArray, List.getElem?_cons_succ, List.getElem?_cons_zero] at c7
  have c6 := hR.cell 6
  simp only [List.getElem?_toArray, List.getElem?_cons_succ, List.getElem?_cons_zero] at c6
  have e1 : isB 0 = true := by decide
  have e2 : owB 0 = false := by decide
  have e3 : dtB 0 = false := by decide
  go_enter Tryd.func87, Tryd.ntmps87
  go_wp2_with (first | (go_at_call 85; refine (is_any 0 _).mono ?_; rintro e w' ⟨rfl, rfl⟩) | (go_at_call 51; refine (owner_any 0 _ hR).mono ?_; rintro e w' ⟨rfl, rfl⟩) | (go_at_call 49; refine (dirty_any 0 _ hR).mono ?_; rintro e w' ⟨rfl, rfl⟩))
  refine bodyPost_ret (results_tmp4 rfl _ _ _) rfl ?_
  exact ⟨rfl, rfl⟩
theorem probe_1_0 (w : World) (hR : Rws w) : Calls Tryd.prog 87 #[.int .i64 1, .int .i64 0] w fun e w' => e = .returned (.tuple #[.int .i64 0, .bool false, .bool false, .int .i64 0]) ∧ w = w' := by
  have c15 := hR.cell 15
  simp only [List.getElem?_toArray, List.getElem?_cons_succ, List.getElem?_cons_zero] at c15
  have e1 : isB 1 = true := by decide
  have e2 : owB 1 = false := by decide
  have e3 : dtB 1 = false := by decide
  go_enter Tryd.func87, Tryd.ntmps87
  go_wp2_with (first | (go_at_call 85; refine (is_any 1 _).mono ?_; rintro e w' ⟨rfl, rfl⟩) | (go_at_call 51; refine (owner_any 1 _ hR).mono ?_; rintro e w' ⟨rfl, rfl⟩) | (go_at_call 49; refine (dirty_any 1 _ hR).mono ?_; rintro e w' ⟨rfl, rfl⟩))
  refine bodyPost_ret (results_tmp4 rfl _ _ _) rfl ?_
  exact ⟨rfl, rfl⟩
theorem probe_1_1 (w : World) (hR : Rws w) : Calls Tryd.prog 87 #[.int .i64 1, .int .i64 1] w fun e w' => e = .returned (.tuple #[.int .i64 1, .bool false, .bool false, .int .i64 0]) ∧ w = w' := by
  have c15 := hR.cell 15
  simp only [List.getElem?_toArray, List.getElem?_cons_succ, List.getElem?_cons_zero] at c15
  have c14 := hR.cell 14
  simp only [List.getElem?_toArray, List.getElem?_cons_succ, List.getElem?_cons_zero] at c14
  have e1 : isB 1 = true := by decide
  have e2 : owB 1 = false := by decide
  have e3 : dtB 1 = false := by decide
  go_enter Tryd.func87, Tryd.ntmps87
  go_wp2_with (first | (go_at_call 85; refine (is_any 1 _).mono ?_; rintro e w' ⟨rfl, rfl⟩) | (go_at_call 51; refine (owner_any 1 _ hR).mono ?_; rintro e w' ⟨rfl, rfl⟩) | (go_at_call 49; refine (dirty_any 1 _ hR).mono ?_; rintro e w' ⟨rfl, rfl⟩))
  refine bodyPost_ret (results_tmp4 rfl _ _ _) rfl ?_
  exact ⟨rfl, rfl⟩
theorem probe_2_0 (w : World) (hR : Rws w) : Calls Tryd.prog 87 #[.int .i64 2, .int .i64 0] w fun e w' => e = .returned (.tuple #[.int .i64 0, .bool true, .bool false, .int .i64 0]) ∧ w = w' := by
  have c23 := hR.cell 23
  simp only [List.getElem?_toArray, List.getElem?_cons_succ, List.getElem?_cons_zero] at c23
  have e1 : isB 2 = true := by decide
  have e2 : owB 2 = true := by decide
  have e3 : dtB 2 = false := by decide
  go_enter Tryd.func87, Tryd.ntmps87
  go_wp2_with (first | (go_at_call 85; refine (is_any 2 _).mono ?_; rintro e w' ⟨rfl, rfl⟩) | (go_at_call 51; refine (owner_any 2 _ hR).mono ?_; rintro e w' ⟨rfl, rfl⟩) | (go_at_call 49; refine (dirty_any 2 _ hR).mono ?_; rintro e w' ⟨rfl, rfl⟩))
  refine bodyPost_ret (results_tmp4 rfl _ _ _) rfl ?_
  exact ⟨rfl, rfl⟩
theorem probe_2_1 (w : World) (hR : Rws w) : Calls Tryd.prog 87 #[.int .i64 2, .int .i64 1] w fun e w' => e = .returned (.tuple #[.int .i64 1, .bool true, .bool false, .int .i64 0]) ∧ w = w' := by
  have c23 := hR.cell 23
  simp only [List.getElem?_toArray, List.getElem?_cons_succ, List.getElem?_cons_zero] at c23
  have c22 := hR.cell 22
  simp only [List.getElem?_toArray, List.getElem?_cons_succ, List.getElem?_cons_zero] at c22
  have e1 : isB 2 = true := by decide
  have e2 : owB 2 = true := by decide
  have e3 : dtB 2 = false := by decide
  go_enter Tryd.func87, Tryd.ntmps87
  go_wp2_with (first | (go_at_call 85; refine (is_any 2 _).mono ?_; rintro e w' ⟨rfl, rfl⟩) | (go_at_call 51; refine (owner_any 2 _ hR).mono ?_; rintro e w' ⟨rfl, rfl⟩) | (go_at_call 49; refine (dirty_any 2 _ hR).mono ?_; rintro e w' ⟨rfl, rfl⟩))
  refine bodyPost_ret (results_tmp4 rfl _ _ _) rfl ?_
  exact ⟨rfl, rfl⟩
theorem probe_3_0 (w : World) (hR : Rws w) : Calls Tryd.prog 87 #[.int .i64 3, .int .i64 0] w fun e w' => e = .returned (.tuple #[.int .i64 0, .bool true, .bool true, .int .i64 0]) ∧ w = w' := by
  have c31 := hR.cell 31
  simp only [List.getElem?_toArray, List.getElem?_cons_succ, List.getElem?_cons_zero] at c31
  have e1 : isB 3 = true := by decide
  have e2 : owB 3 = true := by decide
  have e3 : dtB 3 = true := by decide
  go_enter Tryd.func87, Tryd.ntmps87
  go_wp2_with (first | (go_at_call 85; refine (is_any 3 _).mono ?_; rintro e w' ⟨rfl, rfl⟩) | (go_at_call 51; refine (owner_any 3 _ hR).mono ?_; rintro e w' ⟨rfl, rfl⟩) | (go_at_call 49; refine (dirty_any 3 _ hR).mono ?_; rintro e w' ⟨rfl, rfl⟩))
  refine bodyPost_ret (results_tmp4 rfl _ _ _) rfl ?_
  exact ⟨rfl, rfl⟩
theorem probe_3_1 (w : World) (hR : Rws w) : Calls Tryd.prog 87 #[.int .i64 3, .int .i64 1] w fun e w' => e = .returned (.tuple #[.int .i64 3, .bool true, .bool true, .int .i64 0]) ∧ w = w' := by
  have c31 := hR.cell 31
  simp only [List.getElem?_toArray, List.getElem?_cons_succ, List.getElem?_cons_zero] at c31
  have c30 := hR.cell 30
  simp only [List.getElem?_toArray, List.getElem?_cons_succ, List.getElem?_cons_zero] at c30
  have e1 : isB 3 = true := by decide
  have e2 : owB 3 = true := by decide
  have e3 : dtB 3 = true := by decide
  go_enter Tryd.func87, Tryd.ntmps87
  go_wp2_with (first | (go_at_call 85; refine (is_any 3 _).mono ?_; rintro e w' ⟨rfl, rfl⟩) | (go_at_call 51; refine (owner_any 3 _ hR).mono ?_; rintro e w' ⟨rfl, rfl⟩) | (go_at_call 49; refine (dirty_any 3 _ hR).mono ?_; rintro e w' ⟨rfl, rfl⟩))
  refine bodyPost_ret (results_tmp4 rfl _ _ _) rfl ?_
  exact ⟨rfl, rfl⟩
theorem probe_4_0 (w : World) (hR : Rws w) : Calls Tryd.prog 87 #[.int .i64 4, .int .i64 0] w fun e w' => e = .returned (.tuple #[.int .i64 0, .bool true, .bool true, .int .i64 0]) ∧ w = w' := by
  have c39 := hR.cell 39
  simp only [List.getElem?_toArray, List.getElem?_cons_succ, List.getElem?_cons_zero] at c39
  have e1 : isB 4 = true := by decide
  have e2 : owB 4 = true := by decide
  have e3 : dtB 4 = true := by decide
  go_enter Tryd.func87, Tryd.ntmps87
  go_wp2_with (first | (go_at_call 85; refine (is_any 4 _).mono ?_; rintro e w' ⟨rfl, rfl⟩) | (go_at_call 51; refine (owner_any 4 _ hR).mono ?_; rintro e w' ⟨rfl, rfl⟩) | (go_at_call 49; refine (dirty_any 4 _ hR).mono ?_; rintro e w' ⟨rfl, rfl⟩))
  refine bodyPost_ret (results_tmp4 rfl _ _ _) rfl ?_
  exact ⟨rfl, rfl⟩
theorem probe_4_1 (w : World) (hR : Rws w) : Calls Tryd.prog 87 #[.int .i64 4, .int .i64 1] w fun e w' => e = .returned (.tuple #[.int .i64 3, .bool true, .bool true, .int .i64 0]) ∧ w = w' := by
  have c39 := hR.cell 39
  simp only [List.getElem?_toArray, List.getElem?_cons_succ, List.getElem?_cons_zero] at c39
  have c38 := hR.cell 38
  simp only [List.getElem?_toArray, List.getElem?_cons_succ, List.getElem?_cons_zero] at c38
  have e1 : isB 4 = true := by decide
  have e2 : owB 4 = true := by decide
  have e3 : dtB 4 = true := by decide
  go_enter Tryd.func87, Tryd.ntmps87
  go_wp2_with (first | (go_at_call 85; refine (is_any 4 _).mono ?_; rintro e w' ⟨rfl, rfl⟩) | (go_at_call 51; refine (owner_any 4 _ hR).mono ?_; rintro e w' ⟨rfl, rfl⟩) | (go_at_call 49; refine (dirty_any 4 _ hR).mono ?_; rintro e w' ⟨rfl, rfl⟩))
  refine bodyPost_ret (results_tmp4 rfl _ _ _) rfl ?_
  exact ⟨rfl, rfl⟩

theorem probe_ok (s to : Int) (w : World) (hR : Rws w) (h0 : 0 ≤ s) (h1 : s < 5) (h2 : to = 0 ∨ to = 1) : Calls Tryd.prog 87 #[.int .i64 s, .int .i64 to] w fun e w' => e = .returned (.tuple #[.int .i64 (prN s to), .bool (owB s), .bool (dtB s), .int .i64 0]) ∧ w = w' := by
  rcases five s with h | rfl | rfl | rfl | rfl | rfl | h
  · omega
  · rcases h2 with rfl | rfl
    · exact probe_0_0 w hR
    · exact probe_0_1 w hR
  · rcases h2 with rfl | rfl
    · exact probe_1_0 w hR
    · exact probe_1_1 w hR
  · rcases h2 with rfl | rfl
    · exact probe_2_0 w hR
    · exact probe_2_1 w hR
  · rcases h2 with rfl | rfl
    · exact probe_3_0 w hR
    · exact probe_3_1 w hR
  · rcases h2 with rfl | rfl
    · exact probe_4_0 w hR
    · exact probe_4_1 w hR
  · omega

end Go.Proofs.YtkfnjpmigifomaaDoor
