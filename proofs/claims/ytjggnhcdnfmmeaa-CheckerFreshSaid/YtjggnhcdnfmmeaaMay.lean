/- What this text holds: which worlds may have a granule. No condition. -/
import Derived.Test.YtjggnhcdnfmmeaaTbl
namespace Go.Proofs.Ytjggnhcdnfmmeaa
open Go.RowKit

def alikeB (world owner : Int) : Bool := (world == 0 || owner == world) || owner == 4
def mayB (world owner : Int) : Bool := (decide (0 ≤ world) && decide (world ≤ 3) && ownB owner) && alikeB world owner

theorem may_any (world owner : Int) (w : World) : Calls Try.prog 27 #[.int .i64 world, .int .i64 owner] w fun e w' => e = .returned (.bool (mayB world owner)) ∧ w' = w := by
  by_cases h0 : world < 0
  · go_enter Try.func27, Try.ntmps27
    go_wp2
    go_ret
    refine ⟨ret_bool ?_, rfl⟩
    have : decide (0 ≤ world) = false := by simp; omega
    simp [mayB, this]
  by_cases h3 : 3 < world
  · go_enter Try.func27, Try.ntmps27
    go_wp2
    go_ret
    refine ⟨ret_bool ?_, rfl⟩
    have : decide (world ≤ 3) = false := by simp; omega
    simp [mayB, this]
  have a0 : decide (0 ≤ world) = true := by simp; omega
  have a3 : decide (world ≤ 3) = true := by simp; omega
  have b0 : decide (world < 0) = false := by simp; omega
  have b3 : decide (world > 3) = false := by simp; omega
  cases ho : ownB owner
  · have HO := Lib.hid ho
    have HA := Lib.hid (And.intro a0 a3)
    clear ho a0 a3
    go_enter Try.func27, Try.ntmps27
    go_wp2_with fail
    refine (owns_any _ _).mono ?_
    rintro e w' ⟨rfl, rfl⟩
    rw [HO.out]
    go_wp2
    go_ret
    exact ⟨ret_bool (by simp [mayB, HO.out]), rfl⟩
  · have HO := Lib.hid ho
    have HA := Lib.hid (And.intro a0 a3)
    clear ho a0 a3
    cases h1 : (world == 0)
    · cases h2 : (owner == world)
      · cases h4 : (owner == 4)
        · have HF : Hid (mayB world owner = false) := by show _ = _; simp [mayB, alikeB, HO.out, HA.out.1, HA.out.2, h1, h2, h4]
          go_enter Try.func27, Try.ntmps27
          go_wp2_with fail
          refine (owns_any _ _).mono ?_
          rintro e w' ⟨rfl, rfl⟩
          rw [HO.out]
          go_wp2
          go_ret
          exact ⟨ret_bool (by rw [HF.out]), rfl⟩
        · have HF : Hid (mayB world owner = true) := by show _ = _; simp [mayB, alikeB, HO.out, HA.out.1, HA.out.2, h1, h2, h4]
          go_enter Try.func27, Try.ntmps27
          go_wp2_with fail
          refine (owns_any _ _).mono ?_
          rintro e w' ⟨rfl, rfl⟩
          rw [HO.out]
          go_wp2
          go_ret
          exact ⟨ret_bool (by rw [HF.out]), rfl⟩
      · have HF : Hid (mayB world owner = true) := by show _ = _; simp [mayB, alikeB, HO.out, HA.out.1, HA.out.2, h1, h2]
        go_enter Try.func27, Try.ntmps27
        go_wp2_with fail
        refine (owns_any _ _).mono ?_
        rintro e w' ⟨rfl, rfl⟩
        rw [HO.out]
        go_wp2
        go_ret
        exact ⟨ret_bool (by rw [HF.out]), rfl⟩
    · have HF : Hid (mayB world owner = true) := by show _ = _; simp [mayB, alikeB, HO.out, HA.out.1, HA.out.2, h1]
      go_enter Try.func27, Try.ntmps27
      go_wp2_with fail
      refine (owns_any _ _).mono ?_
      rintro e w' ⟨rfl, rfl⟩
      rw [HO.out]
      go_wp2
      go_ret
      exact ⟨ret_bool (by rw [HF.out]), rfl⟩


end Go.Proofs.Ytjggnhcdnfmmeaa
