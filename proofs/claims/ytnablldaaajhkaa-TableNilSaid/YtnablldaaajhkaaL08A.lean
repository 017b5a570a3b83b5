/- What this text holds: the walks of the laws TableMay and TableNil. No condition. -/
import Derived.Test.YtnablldaaajhkaaTblA
namespace Go.Proofs.Ytnablldaaajhkaa
open Go.RowKit

def alikeB (world owner : Int) : Bool := (world == 0 || owner == world) || owner == 4
def mayB (world owner : Int) : Bool := (decide (0 ≤ world) && decide (world ≤ 3) && ownB owner) && alikeB world owner

theorem may_any (world owner : Int) (w : World) : Calls Try.prog 13 #[.int .i64 world, .int .i64 owner] w fun e w' => e = .returned (.bool (mayB world owner)) ∧ w' = w := by
  by_cases h0 : world < 0
  · go_enter Try.func13, Try.ntmps13
    go_wp2
    go_ret
    refine ⟨ret_bool ?_, rfl⟩
    have : decide (0 ≤ world) = false := by simp; omega
    simp [mayB, this]
  by_cases h3 : 3 < world
  · go_enter Try.func13, Try.ntmps13
    go_wp2
    go_ret
    refine ⟨ret_bool ?_, rfl⟩
    have : decide (world ≤ 3) = false := by simp; omega
    simp [mayB, this]
  have a0 : decide (0 ≤ world) = true := by simp; omega
  have a3 : decide (world ≤ 3) = true := by simp; omega
  have b0 : decide (world < 0) = false := by simp; omega
  have b3 : decide (world > 3) = false := by simp; omega
  cases ho : ownB owner
  · have HO := Lib.hid ho
    have HA := Lib.hid (And.intro a0 a3)
    clear ho a0 a3
    go_enter Try.func13, Try.ntmps13
    go_wp2_with fail
    refine (owns_any _ _).mono ?_
    rintro e w' ⟨rfl, rfl⟩
    rw [HO.out]
    go_wp2
    go_ret
    exact ⟨ret_bool (by simp [mayB, HO.out]), rfl⟩
  · have HO := Lib.hid ho
    have HA := Lib.hid (And.intro a0 a3)
    clear ho a0 a3
    cases h1 : (world == 0)
    · cases h2 : (owner == world)
      · cases h4 : (owner == 4)
        · have HF : Hid (mayB world owner = false) := by show _ = _; simp [mayB, alikeB, HO.out, HA.out.1, HA.out.2, h1, h2, h4]
          go_enter Try.func13, Try.ntmps13
          go_wp2_with fail
          refine (owns_any _ _).mono ?_
          rintro e w' ⟨rfl, rfl⟩
          rw [HO.out]
          go_wp2
          go_ret
          exact ⟨ret_bool (by rw [HF.out]), rfl⟩
        · have HF : Hid (mayB world owner = true) := by show _ = _; simp [mayB, alikeB, HO.out, HA.out.1, HA.out.2, h1, h2, h4]
          go_enter Try.func13, Try.ntmps13
          go_wp2_with fail
          refine (owns_any _ _).mono ?_
          rintro e w' ⟨rfl, rfl⟩
          rw [HO.out]
          go_wp2
          go_ret
          exact ⟨ret_bool (by rw [HF.out]), rfl⟩
      · have HF : Hid (mayB world owner = true) := by show _ = _; simp [mayB, alikeB, HO.out, HA.out.1, HA.out.2, h1, h2]
        go_enter Try.func13, Try.ntmps13
        go_wp2_with fail
        refine (owns_any _ _).mono ?_
        rintro e w' ⟨rfl, rfl⟩
        rw [HO.out]
        go_wp2
        go_ret
        exact ⟨ret_bool (by rw [HF.out]), rfl⟩
    · have HF : Hid (mayB world owner = true) := by show _ = _; simp [mayB, alikeB, HO.out, HA.out.1, HA.out.2, h1]
      go_enter Try.func13, Try.ntmps13
      go_wp2_with fail
      refine (owns_any _ _).mono ?_
      rintro e w' ⟨rfl, rfl⟩
      rw [HO.out]
      go_wp2
      go_ret
      exact ⟨ret_bool (by rw [HF.out]), rfl⟩

/-- What the law's loops have found behind rounds. -/
def wantB (world owner : Int) (k j : Nat) : Bool := (decide (0 ≤ world) && decide (0 ≤ owner) && decide (owner ≤ 4) && (decide (world < k) || (decide (world = k) && decide (owner < j)))) && alikeB world owner

theorem want_start (world owner : Int) : wantB world owner 0 0 = false := by
  unfold wantB
  by_cases h : 0 ≤ world
  · by_cases h2 : 0 ≤ owner
    · have a : decide (world < (0 : Nat)) = false := by simp; omega
      have b : decide (owner < (0 : Nat)) = false := by simp; omega
      rw [a, b]; simp
    · simp [h2]
  · simp [h]
theorem want_other {world owner : Int} {k j : Nat} (h : ((k : Int) == world) = false ∨ ((j : Int) == owner) = false) : wantB world owner k (j + 1) = wantB world owner k j := by
  unfold wantB
  congr 2
  by_cases hk : world = k
  · rcases h with h | h
    · simp [hk] at h
    · have : decide (owner < ((j + 1 : Nat) : Int)) = decide (owner < (j : Int)) := by
        rw [decide_eq_decide]
        simp at h
        omega
      rw [this]
  · simp [hk]
theorem want_this {world owner : Int} {k j : Nat} (h : ((k : Int) == world) = true) (h2 : ((j : Int) == owner) = true) (hj : j ≤ 4) : wantB world owner k (j + 1) = alikeB k j := by
  simp at h h2
  subst h h2
  unfold wantB
  simp
  omega
theorem want_row {world owner : Int} {k : Nat} : wantB world owner (k + 1) 0 = wantB world owner k 5 := by
  unfold wantB
  congr 1
  by_cases h0 : 0 ≤ owner
  · by_cases h4 : owner ≤ 4
    · congr 1
      have a : decide (owner < (0 : Nat)) = false := by simp; omega
      have b : decide (owner < (5 : Nat)) = true := by simp; omega
      rw [a, b]
      simp only [Bool.and_false, Bool.or_false, Bool.and_true]
      rw [Bool.eq_iff_iff]
      simp
      omega
    · simp [h4]
  · simp [h0]
theorem want_end (world owner : Int) : wantB world owner 4 0 = mayB world owner := by
  unfold wantB mayB ownB
  congr 1
  rw [Bool.eq_iff_iff]
  simp
  omega

set_option maxRecDepth 100000 in
set_option maxHeartbeats 4000000 in
theorem tablemay (world owner : Int) (w : World) : Calls Try.prog 3 #[.int .i64 world, .int .i64 owner] w fun e w' => e = .returned (.bool true) ∧ Below w.heap.size w w' := by
  go_enter Try.func3, Try.ntmps3
  go_wp2_with fail
  go_loopg [5, 6] 4 (fun gk s5 s6 wr => ∃ k : Nat, k + gk = 4 ∧ s6 = .int .i64 k ∧ s5 = .bool (wantB world owner k 0) ∧ wr = w)
  case atStart => exact ⟨0, rfl, rfl, by rw [want_start], rfl⟩
  case round =>
    obtain ⟨k, hk, rfl, rfl, rfl⟩ := hrel
    by_cases hk4 : k < 4
    · have ek : decide ((k : Int) ≤ 3) = true := by simp; omega
      obtain ⟨g1, rfl⟩ : ∃ g1, gk = g1 + 1 := ⟨gk - 1, by omega⟩
      go_wp2_with fail
      go_loopg [5, 7] 5 (fun g2 s5 s7 wy => ∃ j : Nat, j + g2 = 5 ∧ s7 = .int .i64 j ∧ s5 = .bool (wantB world owner k j) ∧ wy = wr)
      case atStart => exact ⟨0, rfl, rfl, rfl, rfl⟩
      case round =>
        obtain ⟨j, hj, rfl, rfl, rfl⟩ := hrel
        by_cases hj5 : j < 5
        · have ej : decide ((j : Int) ≤ 4) = true := by simp; omega
          cases h1 : ((k : Int) == world)
          · have HX := Lib.hid (want_other (j := j) (owner := owner) (.inl h1))
            go_wp2_with fail
            go_roundg (5 - (j + 1))
            case measure => omega
            case rel => exact ⟨j + 1, by omega, by go_num, by rw [HX.out], rfl⟩
          · cases h2 : ((j : Int) == owner)
            · have HX := Lib.hid (want_other (k := k) (world := world) (.inr h2))
              go_wp2_with fail
              go_roundg (5 - (j + 1))
              case measure => omega
              case rel => exact ⟨j + 1, by omega, by go_num, by rw [HX.out], rfl⟩
            · cases e1 : ((k : Int) == 0)
              · cases e2 : ((j : Int) == (k : Int))
                · cases e3 : ((j : Int) == 4)
                  · have HX : Hid (wantB world owner k (j + 1) = false) := by show _ = _; rw [want_this h1 h2 (by omega)]; simp [alikeB, e1, e2, e3]
                    go_wp2_with fail
                    go_roundg (5 - (j + 1))
                    case measure => omega
                    case rel => exact ⟨j + 1, by omega, by go_num, by rw [HX.out], rfl⟩
                  · have HX : Hid (wantB world owner k (j + 1) = true) := by show _ = _; rw [want_this h1 h2 (by omega)]; simp [alikeB, e1, e2, e3]
                    go_wp2_with fail
                    go_roundg (5 - (j + 1))
                    case measure => omega
                    case rel => exact ⟨j + 1, by omega, by go_num, by rw [HX.out], rfl⟩
                · have HX : Hid (wantB world owner k (j + 1) = true) := by show _ = _; rw [want_this h1 h2 (by omega)]; simp [alikeB, e1, e2]
                  go_wp2_with fail
                  go_roundg (5 - (j + 1))
                  case measure => omega
                  case rel => exact ⟨j + 1, by omega, by go_num, by rw [HX.out], rfl⟩
              · have HX : Hid (wantB world owner k (j + 1) = true) := by show _ = _; rw [want_this h1 h2 (by omega)]; simp [alikeB, e1]
                go_wp2_with fail
                go_roundg (5 - (j + 1))
                case measure => omega
                case rel => exact ⟨j + 1, by omega, by go_num, by rw [HX.out], rfl⟩
        · have ej : decide ((j : Int) ≤ 4) = false := by simp; omega
          obtain rfl : j = 5 := by omega
          have HX := Lib.hid (want_row (world := world) (owner := owner) (k := k))
          go_wp2_with fail
          go_roundg g1
          case measure => omega
          case rel => exact ⟨k + 1, by omega, by go_num, by rw [HX.out], rfl⟩
    · have ek : decide ((k : Int) ≤ 3) = false := by simp; omega
      obtain rfl : k = 4 := by omega
      go_wp2_with fail
      refine (may_any _ _ _).mono ?_
      rintro e w' ⟨rfl, rfl⟩
      rw [want_end]
      generalize mayB world owner = b
      go_wp2_with fail
      refine (awake08 _).mono ?_
      rintro e w1 ⟨rfl, hb1⟩
      go_wp2_with fail
      go_ret
      exact ⟨rfl, (by repeat (with_reducible first | exact Below.refl _ _ | assumption | (refine ext_next (by assumption) ?_) | apply ext_alloc | apply ext_past | apply ext_drew | apply ext_drewN))⟩

theorem word_nil (i : Int) (w : World) : Calls Try.prog 34 #[.pointer none, .int .i64 i] w fun e w' => e = .returned (.tuple #[.int .i64 0, .int .i64 2]) ∧ w' = w := by
  go_enter Try.func34, Try.ntmps34
  go_wp2
  go_ret2
  exact ⟨rfl, rfl⟩
theorem copy_nil (w : World) : Calls Try.prog 38 #[.pointer none] w fun e w' => e = .returned (.pointer none) ∧ w' = w := by
  go_enter Try.func38, Try.ntmps38
  go_wp2
  go_ret
  exact ⟨rfl, rfl⟩

set_option maxRecDepth 100000 in
set_option maxHeartbeats 4000000 in
theorem tablenil (g o : Int) (l : Bool) (at' : Int) (w : World) : Calls Try.prog 11 #[.agg #[.int .i64 g, .int .i64 o, .bool l], .int .i64 at'] w fun e w' => e = .returned (.bool true) ∧ Below w.heap.size w w' := by
  go_enter Try.func11, Try.ntmps11
  go_wp2_with fail
  refine (get_nil _ _).mono ?_
  rintro e w1 ⟨rfl, hB1⟩
  have B1 : Hid (Below w.heap.size w w1) := Lib.hid (by repeat (with_reducible first | exact Below.refl _ _ | assumption | (refine ext_next (by assumption) ?_) | apply ext_alloc | apply ext_past | apply ext_drew | apply ext_drewN))
  have s1 : w.heap.size < w1.heap.size := by have := hB1.size; simp at this; omega
  have c0 : w1.cell? ⟨w.heap.size, 0, none⟩ = some (.int .i64 g) := (hB1.cell (p := ⟨w.heap.size, 0, none⟩) (by simp)).trans (by simp [World.cell?_alloc_at])
  have c1 : w1.cell? ⟨w.heap.size, 1, none⟩ = some (.int .i64 o) := (hB1.cell (p := ⟨w.heap.size, 1, none⟩) (by simp)).trans (by simp [World.cell?_alloc_at])
  have c2 : w1.cell? ⟨w.heap.size, 2, none⟩ = some (.bool l) := (hB1.cell (p := ⟨w.heap.size, 2, none⟩) (by simp)).trans (by simp [World.cell?_alloc_at])
  clear hB1
  go_wp2_with fail
  refine (word_nil _ _).mono ?_
  rintro e w' ⟨rfl, rfl⟩
  go_wp2_with fail
  refine (set_nil _ _ _ _).mono ?_
  rintro e w2 ⟨rfl, hB2⟩
  have B2 : Hid (Below w1.heap.size w1 w2) := Lib.hid (by repeat (with_reducible first | exact Below.refl _ _ | assumption | (refine ext_next (by assumption) ?_) | apply ext_alloc | apply ext_past | apply ext_drew | apply ext_drewN))
  clear hB2
  go_wp2_with fail
  refine (words_nil _).mono ?_
  rintro e w3 ⟨rfl, hB3⟩
  have B3 : Hid (Below w2.heap.size w2 w3) := Lib.hid (by repeat (with_reducible first | exact Below.refl _ _ | assumption | (refine ext_next (by assumption) ?_) | apply ext_alloc | apply ext_past | apply ext_drew | apply ext_drewN))
  clear hB3
  go_wp2_with fail
  refine (copy_nil _).mono ?_
  rintro e w' ⟨rfl, rfl⟩
  go_wp2_with fail
  refine (awake08 _).mono ?_
  rintro e w4 ⟨rfl, hB4⟩
  have B4 : Hid (Below w'.heap.size w' w4) := Lib.hid (by repeat (with_reducible first | exact Below.refl _ _ | assumption | (refine ext_next (by assumption) ?_) | apply ext_alloc | apply ext_past | apply ext_drew | apply ext_drewN))
  clear hB4
  go_wp2_with fail
  go_ret
  refine ⟨rfl, ?_⟩
  have b1 := B1.out
  have b2 := B2.out
  have b3 := B3.out
  have b4 := B4.out
  exact (by repeat (with_reducible first | exact Below.refl _ _ | assumption | (refine ext_next (by assumption) ?_) | apply ext_alloc | apply ext_past | apply ext_drew | apply ext_drewN))

end Go.Proofs.Ytnablldaaajhkaa
