/- What this text holds: what is seen of a step, walked. No condition. -/
import Derived.Test.YtkobeajbiendlaaDoorPl11C
import Derived.Test.YtkobeajbiendlaaDoorL11B
namespace Go.Proofs.YtkobeajbiendlaaDoor
open Go.RowKit

section
variable {w : World} {lo hi p : Nat} {M : Ma}
set_option maxRecDepth 100000 in
set_option maxHeartbeats 4000000 in
theorem seen_any (hM : Mc w lo hi p M) (co a op wo wd va cd k : Int) (hbd : cd = 0 → op = 4 ∨ op = 5 → wd ≤ 100) : Calls Tryd.prog 35 #[.pointer (some ⟨p, 0, none⟩), .agg #[.int .i64 co, .int .i64 a, .int .i64 op, .int .i64 wo, .int .i64 wd, .int .i64 va, .int .i64 cd], .int .i64 k] w
    fun e w' => e = .returned (.bool (seenB M ⟨co, a, op, wo, wd, va, cd⟩ k)) ∧ Below w.heap.size w w' := by
  have HB0 := Lib.hid (show Below w.heap.size w (w.alloc (.cells #[.int .i64 co, .int .i64 a, .int .i64 op, .int .i64 wo, .int .i64 wd, .int .i64 va, .int .i64 cd] 42)) from ext_alloc _ (Below.refl _ _))
  have HO := Lib.hid (aown_all (hM.ext HB0.out) (wd / 4))
  obtain ⟨⟨ov, oe⟩, ho⟩ : ∃ o, o = M.ownA (wd / 4) := ⟨_, rfl⟩
  rw [← ho] at HO
  have HS := Lib.hid (show seenB M ⟨co, a, op, wo, wd, va, cd⟩ k = (decide (cd = 0) && (((op == 8) || (op == 7)) || (((op == 4) || (op == 5)) && (decide (0 ≤ wd) && (decide (oe = 0) && mayT k ov))))) from by unfold seenB; rw [← ho])
  rw [HS.out]
  clear hM ho HS
  by_cases h0 : cd = 0
  case neg =>
    have e0 : (cd != 0) = true := by simpa using h0
    have e1 : decide (cd = 0) = false := by simpa using h0
    rw [e1]
    clear h0 e1
    go_enter Tryd.func35, Tryd.ntmps35
    go_wp2_with fail
    go_ret
    exact ⟨rfl, HB0.out⟩
  subst h0
  have e00 : decide ((0 : Int) = 0) = true := rfl
  rw [e00]
  clear e00
  cases n8 : (op == 8)
  case true =>
    go_enter Tryd.func35, Tryd.ntmps35
    go_wp2_with fail
    go_ret
    exact ⟨by simp, HB0.out⟩
  cases n7 : (op == 7)
  case true =>
    go_enter Tryd.func35, Tryd.ntmps35
    go_wp2_with fail
    go_ret
    exact ⟨by simp, HB0.out⟩
  have key : ((op == 4) || (op == 5)) = false ∨ (decide (wd < 0)) = true ∨ (((op == 4) = true ∨ ((op == 4) = false ∧ (op == 5) = true)) ∧ decide (wd < 0) = false ∧ 0 ≤ wd) := by
    cases (op == 4) <;> cases (op == 5) <;> by_cases hw : wd < 0 <;> simp [hw] <;> omega
  rcases key with h45 | h | ⟨h45, e2, hwd⟩
  · have n4 : (op == 4) = false := by revert h45; cases (op == 4) <;> simp
    have n5 : (op == 5) = false := by revert h45; cases (op == 5) <;> simp
    rw [n4, n5]
    have m4 : (op != 4) = true := by simp only [bne, n4]; rfl
    have m5 : (op != 5) = true := by simp only [bne, n5]; rfl
    clear h45
    go_enter Tryd.func35, Tryd.ntmps35
    go_wp2_with fail
    go_ret
    exact ⟨by simp, HB0.out⟩
  · have e1 : decide (0 ≤ wd) = false := by simp at h ⊢; omega
    rw [e1]
    clear e1
    cases n4 : (op == 4)
    · have m4 : (op != 4) = true := by simp only [bne, n4]; rfl
      cases n5 : (op == 5)
      · have m5 : (op != 5) = true := by simp only [bne, n5]; rfl
        go_enter Tryd.func35, Tryd.ntmps35
        go_wp2_with fail
        go_ret
        exact ⟨by simp, HB0.out⟩
      · have m5 : (op != 5) = false := by simp only [bne, n5]; rfl
        go_enter Tryd.func35, Tryd.ntmps35
        go_wp2_with fail
        go_ret
        exact ⟨by simp, HB0.out⟩
    · have m4 : (op != 4) = false := by simp only [bne, n4]; rfl
      go_enter Tryd.func35, Tryd.ntmps35
      go_wp2_with fail
      go_ret
      exact ⟨by simp, HB0.out⟩
  have e1 : decide (0 ≤ wd) = true := by simpa using hwd
  have hw100 : wd ≤ 100 := hbd rfl (by
    rcases h45 with h | ⟨_, h⟩
    · exact .inl (by simpa using h)
    · exact .inr (by simpa using h))
  have e45 : ((op == 4) || (op == 5)) = true := by rcases h45 with h | ⟨h, h'⟩ <;> simp [*]
  have h54 : ((op == 4) = true ∧ (op != 4) = false) ∨ ((op == 4) = false ∧ (op != 4) = true ∧ (op != 5) = false) := by
    rcases h45 with h | ⟨h, h'⟩
    · exact .inl ⟨h, by simp only [bne, h]; rfl⟩
    · exact .inr ⟨h, by simp only [bne, h]; rfl, by simp only [bne, h']; rfl⟩
  rw [e1, e45]
  clear e1 e45 h45 hbd
  obtain ⟨kw, rfl⟩ : ∃ kw : Nat, wd = kw := ⟨wd.toNat, by omega⟩
  clear hwd
  by_cases hoe : oe = 0
  · have e3 : decide (oe = 0) = true := by simpa using hoe
    subst hoe
    rw [e3]
    clear e3
    rcases h54 with ⟨n4, m4⟩ | ⟨n4, m4, m5⟩
    · go_enter Tryd.func35, Tryd.ntmps35
      go_wp2_with fail
      refine HO.out.mono ?_
      rintro e w1 ⟨rfl, hb⟩
      have HB1 := Lib.hid (ext_trans HB0.out hb)
      clear hb
      go_wp2_with fail
      refine (tmay_any k ov w1).mono ?_
      rintro e w2 ⟨rfl, hw⟩
      subst hw
      go_wp2_with fail
      go_ret
      exact ⟨by simp, HB1.out⟩
    · go_enter Tryd.func35, Tryd.ntmps35
      go_wp2_with fail
      refine HO.out.mono ?_
      rintro e w1 ⟨rfl, hb⟩
      have HB1 := Lib.hid (ext_trans HB0.out hb)
      clear hb
      go_wp2_with fail
      refine (tmay_any k ov w1).mono ?_
      rintro e w2 ⟨rfl, hw⟩
      subst hw
      go_wp2_with fail
      go_ret
      exact ⟨by simp, HB1.out⟩
  · have e3 : decide (oe = 0) = false := by simpa using hoe
    have e4 : (oe == 0) = false := by simpa using hoe
    rw [e3]
    clear e3 hoe
    rcases h54 with ⟨n4, m4⟩ | ⟨n4, m4, m5⟩
    · go_enter Tryd.func35, Tryd.ntmps35
      go_wp2_with fail
      refine HO.out.mono ?_
      rintro e w1 ⟨rfl, hb⟩
      have HB1 := Lib.hid (ext_trans HB0.out hb)
      clear hb
      go_wp2_with fail
      go_ret
      exact ⟨by simp, HB1.out⟩
    · go_enter Tryd.func35, Tryd.ntmps35
      go_wp2_with fail
      refine HO.out.mono ?_
      rintro e w1 ⟨rfl, hb⟩
      have HB1 := Lib.hid (ext_trans HB0.out hb)
      clear hb
      go_wp2_with fail
      go_ret
      exact ⟨by simp, HB1.out⟩
end
end Go.Proofs.YtkobeajbiendlaaDoor
