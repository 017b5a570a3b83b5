/- What this text holds: a machine's Step, whatever the instruction; what it refuses. Condition: the table of limits holds what its initialiser lays. -/
import Derived.Test.YtkobeajbiendlaaDoorAtmF
import Derived.Test.YtkobeajbiendlaaDoorAtmG
import Derived.Test.YtkobeajbiendlaaDoorAtmH
namespace Go.Proofs.YtkobeajbiendlaaDoor
open Go.RowKit

/-- An event's value. -/
abbrev Ev.val (e : Ev) : Value := .agg #[.int .i64 e.co, .int .i64 e.a, .int .i64 e.op, .int .i64 e.wo, .int .i64 e.wd, .int .i64 e.va, .int .i64 e.cd]
theorem ops_ten {o : Int} (h1 : 1 ≤ o) (h2 : o < 12) (h3 : o ≠ 11) : o = 1 ∨ o = 2 ∨ o = 3 ∨ o = 4 ∨ o = 5 ∨ o = 6 ∨ o = 7 ∨ o = 8 ∨ o = 9 ∨ o = 10 := by omega
section
variable {w : World} {lo hi p qs qo pm lm hm cs co : Nat} {P : Nat → Value} {M : Ma}
set_option maxRecDepth 100000 in
theorem astep_any (h : Mk w lo hi p qs qo pm lm hm cs co P M) (hL : Lims w) (i : Nat) (busy : Bool) (hi' : i < M.nc) (hg : GoodP (M.se i).ps) (he : endB (M.se i).ps (M.se i).a = false) (ho : (M.se i).ov = false) :
    Calls Tryd.prog 34 #[.pointer (some ⟨p, 0, none⟩), .int .i64 i, .bool busy] w fun e w' => e = .returned (.tuple #[(M.step i busy).1.val, .int .i64 0]) ∧ Mk w' lo hi p qs qo pm lm hm cs co P (M.step i busy).2 ∧ Rg lo hi w w' := by
  obtain ⟨k, ha, hk, h11⟩ := endB_no he
  obtain ⟨x, hx, x1, x12, g1, g2, g3, g8, g9, g10, g7⟩ := good_at hg hk
  have hl := hg.1
  obtain ⟨o, a, b, c⟩ := x
  dsimp only at *
  have ho' := ops_ten x1 x12 (show o ≠ 11 by rw [hx] at h11; exact h11)
  have us : M.step i busy = M.step i busy := rfl
  conv at us => rhs; unfold Ma.step
  dsimp only at us
  rw [ha, Int.toNat_natCast, hx] at us
  dsimp only at us
  rcases ho' with rfl | rfl | rfl | rfl | rfl | rfl | rfl | rfl | rfl | rfl
  · obtain ⟨ja, rfl, hja⟩ := g1 (.inl rfl)
    rw [if_pos rfl] at us
    rw [us]
    exact astep_set h hL i k busy ja b c hja hi' ha hk hl ho hx
  · obtain ⟨ja, jb, jc, rfl, rfl, rfl, hja, hjb, hjc⟩ := g2 rfl
    rw [if_neg (by decide), if_pos rfl] at us
    rw [us]
    exact astep_add h hL i k busy ja jb jc hja hjb hjc hi' ha hk hl ho hx
  · obtain ⟨ja, jb, rfl, rfl, hja, hjb⟩ := g3 (by decide)
    rw [if_neg (by decide), if_neg (by decide), if_pos (by decide)] at us
    simp only [Int.toNat_natCast] at us
    rw [us]
    by_cases hm : M.may (M.se i).wo ((M.se i).r jb) = true
    · obtain ⟨kw, hr, hkw, _⟩ := may_true hm
      have hac : M.acc i ⟨3, ja, jb, c⟩ = (M.m.wd kw, 0, M.setReg i ja (M.m.wd kw)) := by
        unfold Ma.acc
        dsimp only
        simp only [Int.toNat_natCast]
        rw [if_pos hm, if_pos trivial, hr]
        simp only [Int.toNat_natCast]
      rw [hac]
      exact astep_load h hL i k busy ja jb c hja hjb hi' ha hk hl ho hx kw hkw hr (hr ▸ hm)
    · have hac : M.acc i ⟨3, ja, jb, c⟩ = (0, 19, M) := by
        unfold Ma.acc
        dsimp only
        simp only [Int.toNat_natCast]
        rw [if_neg hm]
      rw [hac]
      exact astep_fault3 h hL i k busy ja jb c hjb hi' ha hk hl ho hx (by simpa using hm)
  · obtain ⟨ja, jb, rfl, rfl, hja, hjb⟩ := g3 (by decide)
    rw [if_neg (by decide), if_neg (by decide), if_pos (by decide)] at us
    simp only [Int.toNat_natCast] at us
    rw [us]
    by_cases hm : M.may (M.se i).wo ((M.se i).r jb) = true
    · obtain ⟨kw, hr, hkw, _⟩ := may_true hm
      have hac : M.acc i ⟨4, ja, jb, c⟩ = ((M.se i).r ja, 0, { M with m := M.m.setWd kw ((M.se i).r ja) }) := by
        unfold Ma.acc
        dsimp only
        simp only [Int.toNat_natCast]
        rw [if_pos hm, if_neg (by decide), if_pos trivial, hr]
        simp only [Int.toNat_natCast]
      rw [hac]
      exact astep_store h hL i k busy ja jb c hja hjb hi' ha hk hl ho hx kw hkw hr (hr ▸ hm)
    · have hac : M.acc i ⟨4, ja, jb, c⟩ = (0, 19, M) := by
        unfold Ma.acc
        dsimp only
        simp only [Int.toNat_natCast]
        rw [if_neg hm]
      rw [hac]
      exact astep_fault4 h hL i k busy ja jb c hjb hi' ha hk hl ho hx (by simpa using hm)
  · obtain ⟨ja, jb, rfl, rfl, hja, hjb⟩ := g3 (by decide)
    rw [if_neg (by decide), if_neg (by decide), if_pos (by decide)] at us
    simp only [Int.toNat_natCast] at us
    rw [us]
    by_cases hm : M.may (M.se i).wo ((M.se i).r jb) = true
    · obtain ⟨kw, hr, hkw, _⟩ := may_true hm
      have hac : M.acc i ⟨5, ja, jb, c⟩ = (M.m.wd kw, 0, Ma.setReg { M with m := M.m.setWd kw ((M.se i).r ja) } i ja (M.m.wd kw)) := by
        unfold Ma.acc
        dsimp only
        simp only [Int.toNat_natCast]
        rw [if_pos hm, if_neg (by decide), if_neg (by decide), hr]
        simp only [Int.toNat_natCast]
      rw [hac]
      exact astep_swap h hL i k busy ja jb c hja hjb hi' ha hk hl ho hx kw hkw hr (hr ▸ hm)
    · have hac : M.acc i ⟨5, ja, jb, c⟩ = (0, 19, M) := by
        unfold Ma.acc
        dsimp only
        simp only [Int.toNat_natCast]
        rw [if_neg hm]
      rw [hac]
      exact astep_fault5 h hL i k busy ja jb c hjb hi' ha hk hl ho hx (by simpa using hm)
  · rw [if_neg (by decide), if_neg (by decide), if_neg (by decide), if_neg (by decide), if_neg (by decide), if_neg (by decide), if_neg (by decide)] at us
    rw [us]
    exact astep_fence h hL i k busy a b c hi' ha hk hl ho hx
  · rw [if_neg (by decide), if_neg (by decide), if_neg (by decide), if_pos rfl] at us
    by_cases hw : (M.se i).wo = 0
    · rw [if_pos hw] at us
      rw [us]
      exact astep_root h hL i k busy a b c hi' ha hk hl ho hx hw
    · rw [if_neg hw] at us
      rw [us]
      exact astep_noroot h hL i k busy a b c hi' ha hk hl ho hx hw
  · obtain ⟨jb, jc, rfl, rfl, hjb, hjc, _⟩ := g8 rfl
    rw [if_neg (by decide), if_neg (by decide), if_neg (by decide), if_neg (by decide), if_pos rfl] at us
    simp only [Int.toNat_natCast] at us
    rw [us]
    exact astep_call h hL i k busy a jb jc hjb hjc hi' ha hk hl ho hx
  · obtain ⟨ja, rfl⟩ : ∃ ja : Nat, a = ja := ⟨a.toNat, by have := (g9 rfl).1; omega⟩
    rw [if_neg (by decide), if_neg (by decide), if_neg (by decide), if_neg (by decide), if_neg (by decide), if_pos rfl] at us
    rw [us]
    exact astep_jump h hL i k busy ja b c hi' ha hk hl ho hx
  · obtain ⟨ja, rfl, hja⟩ := g1 (.inr rfl)
    obtain ⟨jb, rfl⟩ : ∃ jb : Nat, b = jb := ⟨b.toNat, by have := (g10 rfl).1; omega⟩
    rw [if_neg (by decide), if_neg (by decide), if_neg (by decide), if_neg (by decide), if_neg (by decide), if_neg (by decide), if_pos rfl] at us
    simp only [Int.toNat_natCast] at us
    by_cases hz : (M.se i).r ja = 0
    · rw [if_pos hz, hz] at us
      rw [us]
      exact astep_zero h hL i k busy ja jb c hja hi' ha hk hl ho hx hz
    · rw [if_neg hz] at us
      rw [us]
      exact astep_nozero h hL i k busy ja jb c hja hi' ha hk hl ho hx hz
end

end Go.Proofs.YtkobeajbiendlaaDoor
