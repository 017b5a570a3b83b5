/- What this text holds: plain laws on which states fit, pair by pair, and on a list that is turned round. No program, no condition. -/
import Derived.Test.YtnbdaffbmpbfjaaDoorPl06
import Derived.Test.YtnbdaffbmpbfjaaDoorRef06
namespace Go.Proofs.YtnbdaffbmpbfjaaDoor
open Go.RowKit

/-- Two states that cannot stand side by side. -/
def conf (a b : Int) : Bool := (owB a && owB b) || (stB a && !(b == 0)) || (stB b && !(a == 0))
theorem cls (a : Int) : (a = 0 ∧ owB 0 = false ∧ stB 0 = false) ∨ (a ≠ 0 ∧ owB a = false ∧ stB a = false) ∨ (a ≠ 0 ∧ owB a = true ∧ stB a = false) ∨ (a ≠ 0 ∧ owB a = true ∧ stB a = true) := by
  by_cases h0 : a = 0
  · subst h0; decide
  · have h0' := h0
    by_cases h1 : owB a = true
    · by_cases h2 : stB a = true
      · exact .inr (.inr (.inr ⟨h0', h1, h2⟩))
      · exact .inr (.inr (.inl ⟨h0', h1, by simpa using h2⟩))
    · refine .inr (.inl ⟨h0', by simpa using h1, ?_⟩)
      rw [Bool.eq_false_iff]
      exact fun h2 => h1 (stB_ow a h2)
theorem letB_yes {s : Int} (h : isB s = true) : (letB s).toList.isEmpty = false := by
  rcases five s with h' | rfl | rfl | rfl | rfl | rfl | h'
  · rw [isB_no (.inl h')] at h; simp at h
  · decide +kernel
  · decide +kernel
  · decide +kernel
  · decide +kernel
  · decide +kernel
  · rw [isB_no (.inr h')] at h; simp at h

theorem fits_snoc {ys : List Int} (h : Fits ys) {a : Int} (ha : isB a = true) (hc : ∀ b ∈ ys, conf a b = false) : Fits (ys ++ [a]) := by
  have hno : noB a = false := by simp [noB, ha]
  refine ⟨by rw [List.countP_append, h.no]; simp [hno], ?_, ?_⟩
  · rw [List.countP_append]
    by_cases ho : owB a = true
    · have : ys.countP owB = 0 := List.countP_eq_zero.2 fun b hb hb2 => by have := hc b hb; simp [conf, ho, hb2] at this
      rw [this]; simp [ho]
    · have := h.ow
      simp [ho]; exact this
  · by_cases hs : stB a = true
    · right
      have hva := st_v a hs
      have : ys.countP vB = 0 := List.countP_eq_zero.2 fun b hb hb2 => by
        have h1 := hc b hb
        have h2 : b = 0 := by simp [conf, hs] at h1; exact h1.1.2
        subst h2
        exact absurd hb2 (by decide)
      rw [List.countP_append, this]; simp [hva]
    · by_cases h0 : a = 0
      · subst h0
        have e1 : stB 0 = false := by decide
        have e2 : vB 0 = false := by decide
        rw [List.countP_append, List.countP_append]
        simp [e1, e2]
        rcases h.st with h | h
        · exact .inl fun b hb => by simpa using List.countP_eq_zero.1 h b hb
        · exact .inr h
      · left
        rw [List.countP_append]
        have : ys.countP stB = 0 := List.countP_eq_zero.2 fun b hb hb2 => by
          have h1 := hc b hb
          simp [conf, hb2, h0] at h1
        rw [this]; simp [hs]
theorem fit_snoc {xs : List Int} {k : Nat} (hk : k < xs.length) (h : fitB (xs.take k) = true) (ha : isB (xs[k]?.getD 0) = true) (hc : ∀ i, i < k → conf (xs[k]?.getD 0) (xs[i]?.getD 0) = false) : fitB (xs.take (k + 1)) = true := by
  rw [List.take_succ_eq_append_getElem hk]
  rw [List.getElem?_eq_getElem hk] at ha hc
  refine fits_iff.2 (fits_snoc (fits_iff.1 h) ha fun b hb => ?_)
  obtain ⟨i, hi, rfl⟩ := List.getElem_of_mem hb
  have hi' : i < k := by simp at hi; omega
  have := hc i hi'
  rw [List.getElem?_eq_getElem (by omega)] at this
  simpa using this
theorem fit_no {xs : List Int} {k : Nat} (hk : k < xs.length) (h : isB (xs[k]?.getD 0) = false) : fitB xs = false := by
  rw [List.getElem?_eq_getElem hk] at h
  rw [Bool.eq_false_iff]
  intro hf
  have := (fits_iff.1 hf).is (List.getElem_mem hk)
  simp only [Option.getD_some] at h
  rw [isB_yes this.1 this.2] at h
  simp at h
theorem Fits.told1 {xs : List Int} (h : Fits xs) {j : Nat} (hj : j < xs.length) (hs : owB xs[j] = true) {i : Nat} (hi : i < xs.length) (hne : i ≠ j) : owB xs[i] = false := by
  have h2 := h.ow
  have h3 := countP_set' owB xs j hj 0
  rw [if_pos hs] at h3
  have h4 : (xs.set j 0).countP owB = 0 := by
    have : owB 0 = false := by decide
    rw [this] at h3
    simp only [Bool.false_eq_true, if_false] at h3
    omega
  have h5 := List.countP_eq_zero.1 h4 ((xs.set j 0)[i]'(by simpa using hi)) (List.getElem_mem _)
  rw [List.getElem_set] at h5
  rw [if_neg (fun e => hne e.symm)] at h5
  simpa using h5
theorem fit_conf {xs : List Int} {k i : Nat} (hk : k < xs.length) (hi : i < k) (h : conf (xs[k]?.getD 0) (xs[i]?.getD 0) = true) : fitB xs = false := by
  have hi2 : i < xs.length := by omega
  rw [List.getElem?_eq_getElem hk, List.getElem?_eq_getElem hi2] at h
  rw [Bool.eq_false_iff]
  intro hf
  have F := fits_iff.1 hf
  have v0 : ∀ (q : Nat) (hq : q < xs.length), vB xs[q] = false → xs[q] = 0 := fun q hq hv => by
    have := F.is (List.getElem_mem hq)
    simp only [vB, decide_eq_false_iff_not] at hv
    omega
  simp only [conf, Option.getD_some, Bool.or_eq_true, Bool.and_eq_true, Bool.not_eq_true'] at h
  rcases h with (h | h) | h
  · have := F.told1 hk h.1 hi2 (by omega)
    rw [this] at h
    exact absurd h.2 (by simp)
  · have := v0 i hi2 (F.alone hk h.1 hi2 (by omega))
    rw [this] at h
    exact absurd h.2 (by simp)
  · have := v0 k hk (F.alone hi2 h.1 hk (by omega))
    rw [this] at h
    exact absurd h.2 (by simp)

/-- A list that is turned round: from f on, then from the head. -/
def turn (xs : List Int) (f : Nat) : List Int := xs.drop f ++ xs.take f
theorem turn_length (xs : List Int) (f : Nat) : (turn xs f).length = xs.length := by simp [turn]; omega
theorem turn_count (p : Int → Bool) (xs : List Int) (f : Nat) : (turn xs f).countP p = xs.countP p := by
  unfold turn
  rw [List.countP_append, Nat.add_comm, ← List.countP_append, List.take_append_drop]
theorem turn_fit (xs : List Int) (f : Nat) : fitB (turn xs f) = fitB xs := by simp only [fitB, turn_count]
theorem turn_get (xs : List Int) {f k : Nat} (hf : f < xs.length) (hk : k < xs.length) : (turn xs f)[k]?.getD 0 = xs[(f + k) % xs.length]?.getD 0 := by
  unfold turn
  rw [List.getElem?_append]
  rw [List.length_drop]
  split
  · rw [List.getElem?_drop, Nat.mod_eq_of_lt (by omega)]
  · rw [List.getElem?_take, if_pos (by omega)]
    have : (f + k) % xs.length = k - (xs.length - f) := by
      rw [Nat.mod_eq_sub_mod (by omega), Nat.mod_eq_of_lt (by omega)]; omega
    rw [this]
theorem take_snoc {ys : List Int} {k : Nat} (hk : k < ys.length) : ys.take (k + 1) = ys.take k ++ [ys[k]?.getD 0] := by
  rw [List.take_succ_eq_append_getElem hk, List.getElem?_eq_getElem hk]; rfl

end Go.Proofs.YtnbdaffbmpbfjaaDoor
