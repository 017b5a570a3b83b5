/- What this text holds: which states fit, as counts. Condition: the table of states holds what its initialiser lays. -/
import Derived.Test.YtkfnjpmigifomaaDoorMoesi2
namespace Go.Proofs.YtkfnjpmigifomaaDoor
open Go.RowKit

/-- No state at all. -/
def noB (s : Int) : Bool := !isB s
/-- Which states fit. -/
def fitB (xs : List Int) : Bool := decide (xs.countP noB = 0) && decide (xs.countP owB ≤ 1) && (decide (xs.countP stB = 0) || decide (xs.countP vB = 1))

set_option maxRecDepth 100000 in
set_option maxHeartbeats 2000000 in
theorem fit_any (A : Option Addr) (cap : Nat) (xs : List Int) (w : World) (hR : Rws w) (hx : SlI w A xs) (hm : xs.length ≤ maxLen) :
    Calls Tryd.prog 89 #[.slice A xs.length cap] w fun e w' => e = .returned (.bool (fitB xs)) ∧ w = w' := by
  unfold maxLen at hm
  have HX := Lib.hid hx
  clear hx
  go_enter Tryd.func89, Tryd.ntmps89
  go_wp2
  go_step3
  go_wp2
  go_step3
  go_wp2
  go_loopg [3, 4, 5, 6, 11] xs.length (fun m v o s n i wr => ∃ k : Nat, k ≤ xs.length ∧ m = xs.length - k ∧ wr = w ∧ i = .int .i64 k ∧ v = .int .i64 ((xs.take k).countP vB : Nat) ∧ o = .int .i64 ((xs.take k).countP owB : Nat) ∧ s = .int .i64 ((xs.take k).countP stB : Nat) ∧ n = .int .i64 ((xs.take k).countP noB : Nat))
  case atStart => exact ⟨0, by omega, rfl, rfl, rfl, by simp, by simp, by simp, by simp⟩
  case round =>
    obtain ⟨k, hk, rfl, rfl, rfl, rfl, rfl, rfl, rfl⟩ := hrel
    have c1 : (xs.take k).countP vB ≤ k := countP_take_le
    have c2 : (xs.take k).countP stB ≤ k := countP_take_le
    have c3 : (xs.take k).countP owB ≤ k := countP_take_le
    have c4 : (xs.take k).countP noB ≤ k := countP_take_le
    by_cases hlt : k < xs.length
    · obtain ⟨b, off, rfl, _, hc⟩ := HX.out (by omega)
      have hc1 := hc k hlt
      have s1 := Lib.hid (countP_take (p := vB) hlt)
      have s2 := Lib.hid (countP_take (p := stB) hlt)
      have s3 := Lib.hid (countP_take (p := owB) hlt)
      have s4 := Lib.hid (countP_take (p := noB) hlt)
      clear hc
      generalize xs[k]?.getD 0 = x at hc1 s1 s2 s3 s4
      by_cases hb : isB x = true
      · have hn : Hid (noB x = false) := by show noB x = false; simp [noB, hb]
        cases hv : vB x <;> cases hs : stB x <;> cases ho : owB x
        all_goals
          go_wp2_with (first | (go_at_call 85; refine (is_any _ _).mono ?_; rintro e w' ⟨rfl, rfl⟩) | (go_at_call 44; refine (valid_any _ _ hR).mono ?_; rintro e w' ⟨rfl, rfl⟩) | (go_at_call 47; refine (store_any _ _ hR).mono ?_; rintro e w' ⟨rfl, rfl⟩) | (go_at_call 51; refine (owner_any _ _ hR).mono ?_; rintro e w' ⟨rfl, rfl⟩))
          go_roundg (xs.length - (k + 1))
          case measure => omega
          case rel => exact ⟨k + 1, by omega, rfl, rfl, by go_num, by rw [s1.out]; simp [hv], by rw [s3.out]; simp [ho], by rw [s2.out]; simp [hs], by rw [s4.out]; simp [hn.out]⟩
      · have hb' : isB x = false := by simpa using hb
        have hn : Hid (noB x = true) := by show noB x = true; simp [noB, hb']
        have hv : vB x = false := by simp [isB] at hb'; simp only [vB, decide_eq_false_iff_not]; omega
        have hs : stB x = false := by simp [isB] at hb'; simp only [stB, decide_eq_false_iff_not]; omega
        have ho : owB x = false := by simp [isB] at hb'; simp only [owB, decide_eq_false_iff_not]; omega
        clear hb
        go_wp2_with (go_at_call 85; refine (is_any _ _).mono ?_; rintro e w' ⟨rfl, rfl⟩)
        go_roundg (xs.length - (k + 1))
        case measure => omega
        case rel => exact ⟨k + 1, by omega, rfl, rfl, by go_num, by rw [s1.out]; simp [hv], by rw [s3.out]; simp [ho], by rw [s2.out]; simp [hs], by rw [s4.out]; simp [hn.out]⟩
    · obtain rfl : k = xs.length := by omega
      have ht : xs.take xs.length = xs := List.take_length
      rw [ht]
      rw [ht] at c1 c2 c3 c4
      clear ht
      generalize hv : xs.countP vB = nv at c1 ⊢
      generalize hs : xs.countP stB = ns at c2 ⊢
      generalize ho : xs.countP owB = no at c3 ⊢
      generalize hn : xs.countP noB = nn at c4 ⊢
      have HV := Lib.hid hv
      have HS := Lib.hid hs
      have HO := Lib.hid ho
      have HN := Lib.hid hn
      clear hv hs ho hn
      go_wp2
      all_goals
        (try rw [Exit.noGoto_ret])
        go_ret
        refine ⟨ret_bool ?_, rfl⟩
        simp only [fitB, HV.out, HS.out, HO.out, HN.out]
        rw [Bool.eq_iff_iff]
        first | (simp; done) | (simp <;> omega) | (simp_all; done) | (simp_all <;> omega)

end Go.Proofs.YtkfnjpmigifomaaDoor
