/- What this text holds: the law CheckerWorlds, walked. No condition. -/
import Derived.Test.YtjggnhcdnfmmeaaWkB
namespace Go.Proofs.Ytjggnhcdnfmmeaa
open Go.RowKit

/-- A call of the checkers' statements. -/
structure Op9 where
  k : Int
  g : Int
  x : Int
  y : Int
def Op9.none : Op9 := ⟨0, 0, 0, 0⟩
def atO (l : List Op9) (i : Nat) : Op9 := l[i]?.getD Op9.none
/-- A list of calls in memory. -/
def SlO (w : World) (A : Option Addr) (l : List Op9) : Prop :=
  0 < l.length → ∃ b off, A = some ⟨b, off, none⟩ ∧ b < w.heap.size ∧ ∀ i, i < l.length → w.cell? ⟨b, off + i * 4, none⟩ = some (.int .i64 (atO l i).k) ∧ w.cell? ⟨b, off + i * 4 + 1, none⟩ = some (.int .i64 (atO l i).g) ∧ w.cell? ⟨b, off + i * 4 + 2, none⟩ = some (.int .i64 (atO l i).x) ∧ w.cell? ⟨b, off + i * 4 + 3, none⟩ = some (.int .i64 (atO l i).y)

def may9B (n m : Int) : Bool := decide (1 ≤ n) && decide (n ≤ 8) && decide (1 ≤ m) && decide (m ≤ 16)
theorem may9_any (n m : Int) (w : World) : Calls Try.prog 10 #[.int .i64 n, .int .i64 m] w fun e w' => e = .returned (.bool (may9B n m)) ∧ w' = w := by
  unfold may9B
  by_cases h1 : 1 ≤ n
  · by_cases h2 : n ≤ 8
    · by_cases h3 : 1 ≤ m
      · by_cases h4 : m ≤ 16
        · have e1 : decide (n ≥ 1) = true := by simpa using h1
          have e2 : decide (n ≤ 8) = true := by simpa using h2
          have e3 : decide (m ≥ 1) = true := by simpa using h3
          have e4 : decide (m ≤ 16) = true := by simpa using h4
          go_enter Try.func10, Try.ntmps10
          go_wp2_with fail
          go_ret
          exact ⟨ret_bool (by simp [h1, h2, h3, h4]), rfl⟩
        · have e1 : decide (n ≥ 1) = true := by simpa using h1
          have e2 : decide (n ≤ 8) = true := by simpa using h2
          have e3 : decide (m ≥ 1) = true := by simpa using h3
          have e4 : decide (m ≤ 16) = false := by simpa using h4
          go_enter Try.func10, Try.ntmps10
          go_wp2_with fail
          go_ret
          exact ⟨ret_bool (by simp), rfl⟩
      · have e1 : decide (n ≥ 1) = true := by simpa using h1
        have e2 : decide (n ≤ 8) = true := by simpa using h2
        have e3 : decide (m ≥ 1) = false := by simp; omega
        go_enter Try.func10, Try.ntmps10
        go_wp2_with fail
        go_ret
        exact ⟨ret_bool (by simp), rfl⟩
    · have e1 : decide (n ≥ 1) = true := by simpa using h1
      have e2 : decide (n ≤ 8) = false := by simpa using h2
      go_enter Try.func10, Try.ntmps10
      go_wp2_with fail
      go_ret
      exact ⟨ret_bool (by simp), rfl⟩
  · have e1 : decide (n ≥ 1) = false := by simp; omega
    go_enter Try.func10, Try.ntmps10
    go_wp2_with fail
    go_ret
    exact ⟨ret_bool (by simp), rfl⟩
theorem few9_any (A : Option Addr) (k cap : Nat) (w : World) : Calls Try.prog 11 #[.slice A k cap] w fun e w' => e = .returned (.bool (decide ((k : Int) ≤ 80))) ∧ w' = w := by
  go_enter Try.func11, Try.ntmps11
  go_wp2
  go_ret
  exact ⟨rfl, rfl⟩

/-- How often a value comes among the first answers. -/
def cnt (a : Nat → Int) (v : Int) : Nat → Int
  | 0 => 0
  | k + 1 => cnt a v k + if a k = v then 1 else 0
theorem cnt_bd (a : Nat → Int) (v : Int) : ∀ k, 0 ≤ cnt a v k ∧ cnt a v k ≤ k
  | 0 => ⟨Int.le_refl _, Int.le_refl _⟩
  | k + 1 => by
    have := cnt_bd a v k
    unfold cnt
    split <;> omega

theorem cells2 {W : World} {b : Nat} {x y : Value} {t : TypeId} (h : W.heap[b]? = some (.cells #[x, y] t (0, 0))) : W.cell? ⟨b, 0, none⟩ = some x ∧ W.cell? ⟨b, 1, none⟩ = some y ∧ b < W.heap.size :=
  ⟨by simp [World.cell?, h], by simp [World.cell?, h], lt_of h⟩

set_option maxRecDepth 100000 in
set_option maxHeartbeats 4000000 in
theorem worlds_out (n m g : Int) (A : Option Addr) (k cap : Nat) (w : World) (h : may9B n m = false ∨ 80 < k ∨ g < 0 ∨ m ≤ g) :
    Calls Try.prog 3 #[.agg #[.int .i64 n, .int .i64 m], .slice A k cap, .int .i64 g] w fun e w' => e = .returned (.bool true) ∧ Below w.heap.size w w' := by
  obtain ⟨W, hW⟩ : ∃ W, W = w.alloc (.cells #[.int .i64 n, .int .i64 m] 22) := ⟨_, rfl⟩
  obtain ⟨c0, c1, cl⟩ := cells2 (show W.heap[w.heap.size]? = some (.cells #[.int .i64 n, .int .i64 m] 22 (0, 0)) by rw [hW]; exact alNew rfl)
  have HB := Lib.hid (show Below w.heap.size w W by rw [hW]; exact ext_alloc _ (Below.refl _ _))
  have HW := Lib.hid hW
  clear hW
  cases hm : may9B n m
  · have HM := Lib.hid hm
    clear h hm
    go_enter Try.func3, Try.ntmps3
    go_wp2_with (rw [← HW.out])
    refine (may9_any n m W).mono ?_
    rintro e w1 ⟨rfl, hw⟩
    subst hw
    rw [HM.out]
    go_wp2_with fail
    refine (awake09 _).mono ?_
    rintro e w2 ⟨rfl, hb⟩
    have HB2 := Lib.hid (ext_trans HB.out hb)
    go_wp2_with fail
    go_ret
    exact ⟨rfl, HB2.out⟩
  have HM := Lib.hid hm
  clear hm
  by_cases hk : 80 < k
  · have e1 : decide ((k : Int) ≤ 80) = false := by simp; omega
    clear h
    go_enter Try.func3, Try.ntmps3
    go_wp2_with (rw [← HW.out])
    refine (may9_any n m W).mono ?_
    rintro e w1 ⟨rfl, hw⟩
    subst hw
    rw [HM.out]
    go_wp2_with fail
    refine (few9_any A k cap _).mono ?_
    rintro e w1 ⟨rfl, hw⟩
    subst hw
    rw [e1]
    go_wp2_with fail
    refine (awake09 _).mono ?_
    rintro e w2 ⟨rfl, hb⟩
    have HB2 := Lib.hid (ext_trans HB.out hb)
    go_wp2_with fail
    go_ret
    exact ⟨rfl, HB2.out⟩
  have e1 : decide ((k : Int) ≤ 80) = true := by simp; omega
  by_cases hg : g < 0
  · have e2 : decide (g < 0) = true := by simpa using hg
    clear h
    go_enter Try.func3, Try.ntmps3
    go_wp2_with (rw [← HW.out])
    refine (may9_any n m W).mono ?_
    rintro e w1 ⟨rfl, hw⟩
    subst hw
    rw [HM.out]
    go_wp2_with fail
    refine (few9_any A k cap _).mono ?_
    rintro e w1 ⟨rfl, hw⟩
    subst hw
    rw [e1]
    go_wp2_with fail
    refine (awake09 _).mono ?_
    rintro e w2 ⟨rfl, hb⟩
    have HB2 := Lib.hid (ext_trans HB.out hb)
    go_wp2_with fail
    go_ret
    exact ⟨rfl, HB2.out⟩
  have e2 : decide (g < 0) = false := by simpa using hg
  have hmg : m ≤ g := by
    rcases h with h | h | h | h
    · have := HM.out; rw [h] at this; cases this
    · omega
    · omega
    · exact h
  have e3 : decide (g ≥ m) = true := by simpa using hmg
  clear h
  go_enter Try.func3, Try.ntmps3
  go_wp2_with (rw [← HW.out])
  refine (may9_any n m W).mono ?_
  rintro e w1 ⟨rfl, hw⟩
  subst hw
  rw [HM.out]
  go_wp2_with fail
  refine (few9_any A k cap _).mono ?_
  rintro e w1 ⟨rfl, hw⟩
  subst hw
  rw [e1]
  go_wp2_with fail
  refine (awake09 _).mono ?_
  rintro e w2 ⟨rfl, hb⟩
  have HB2 := Lib.hid (ext_trans HB.out hb)
  go_wp2_with fail
  go_ret
  exact ⟨rfl, HB2.out⟩

end Go.Proofs.Ytjggnhcdnfmmeaa
