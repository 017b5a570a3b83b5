/- What this text holds: plain laws on lists of states: stores, probes and grants leave states that fit. No program, no condition. -/
import Derived.Test.YtnbdaffbmpbfjaaDoorMoesi3
import Derived.Test.YtnbdaffbmpbfjaaDoorMoesi4
namespace Go.Proofs.YtnbdaffbmpbfjaaDoor
open Go.RowKit

theorem stB_ow (s : Int) (h : stB s = true) : owB s = true := by simp only [stB, owB, decide_eq_true_eq] at *; omega
theorem ow_v (s : Int) (h : owB s = true) : vB s = true := by simp only [vB, owB, decide_eq_true_eq] at *; omega
theorem st_v (s : Int) (h : stB s = true) : vB s = true := ow_v s (stB_ow s h)
theorem no_v (s : Int) (h : noB s = true) : vB s = false := by
  simp only [noB, isB, Bool.not_eq_true', decide_eq_false_iff_not] at h
  simp only [vB, decide_eq_false_iff_not]; omega

structure Fits (xs : List Int) : Prop where
  no : xs.countP noB = 0
  ow : xs.countP owB ≤ 1
  st : xs.countP stB = 0 ∨ xs.countP vB = 1
theorem fits_iff {xs : List Int} : fitB xs = true ↔ Fits xs := by
  simp only [fitB, Bool.and_eq_true, Bool.or_eq_true, decide_eq_true_eq]
  exact ⟨fun h => ⟨h.1.1, h.1.2, h.2⟩, fun h => ⟨⟨h.no, h.ow⟩, h.st⟩⟩
theorem Fits.is {xs : List Int} (h : Fits xs) {x : Int} (hx : x ∈ xs) : 0 ≤ x ∧ x < 5 := by
  have := List.countP_eq_zero.1 h.no x hx
  simp only [noB, isB, Bool.not_eq_true', decide_eq_false_iff_not] at this
  omega

theorem countP_set' (p : Int → Bool) (xs : List Int) (j : Nat) (hj : j < xs.length) (a : Int) :
    (xs.set j a).countP p + (if p xs[j] then 1 else 0) = xs.countP p + (if p a then 1 else 0) := by
  have h1 := List.countP_set (p := p) (a := a) hj
  have h2 : p xs[j] = true → 0 < xs.countP p := fun h => List.countP_pos_iff.2 ⟨_, List.getElem_mem hj, h⟩
  rw [h1]
  split <;> split <;> simp_all <;> omega

/-- Where a line may be written it is there alone. -/
theorem Fits.alone {xs : List Int} (h : Fits xs) {j : Nat} (hj : j < xs.length) (hs : stB xs[j] = true) {i : Nat} (hi : i < xs.length) (hne : i ≠ j) : vB xs[i] = false := by
  have h1 : 0 < xs.countP stB := List.countP_pos_iff.2 ⟨_, List.getElem_mem hj, hs⟩
  have h2 : xs.countP vB = 1 := by rcases h.st with h | h <;> omega
  have h3 := countP_set' vB xs j hj 0
  rw [if_pos (st_v _ hs), h2] at h3
  have h4 : (xs.set j 0).countP vB = 0 := by
    have : vB 0 = false := by decide
    rw [this] at h3
    simp only [Bool.false_eq_true, if_false] at h3
    omega
  have h5 := List.countP_eq_zero.1 h4 ((xs.set j 0)[i]'(by simpa using hi)) (List.getElem_mem _)
  rw [List.getElem_set] at h5
  rw [if_neg (fun e => hne e.symm)] at h5
  simpa using h5
/-- A store leaves states that fit. -/
theorem Fits.store {xs : List Int} (h : Fits xs) {j : Nat} (hj : j < xs.length) (hs : stB xs[j] = true) : Fits (xs.set j 4) := by
  have h1 : 0 < xs.countP stB := List.countP_pos_iff.2 ⟨_, List.getElem_mem hj, hs⟩
  have h2 : xs.countP vB = 1 := by rcases h.st with h | h <;> omega
  have a1 := countP_set' noB xs j hj 4
  have a2 := countP_set' owB xs j hj 4
  have a3 := countP_set' vB xs j hj 4
  rw [if_pos (st_v _ hs)] at a3
  rw [if_pos (stB_ow _ hs)] at a2
  have e1 : noB 4 = false := by decide
  have e2 : owB 4 = true := by decide
  have e3 : vB 4 = true := by decide
  have := h.no
  have := h.ow
  simp [e1, e2, e3] at a1 a2 a3
  refine ⟨by omega, by omega, .inr (by omega)⟩

/-- The others' states behind a probe. -/
def othL (to : Int) (j : Nat) (xs : List Int) : List Int := (xs.eraseIdx j).map (prN · to)
theorem eraseIdx_take_eq {xs : List Int} {j : Nat} (hj : j < xs.length) : (xs.take (j + 1)).eraseIdx j = (xs.take j).eraseIdx j := by
  have hl : (xs.take j).length = j := by rw [List.length_take]; omega
  rw [List.take_succ_eq_append_getElem hj, List.eraseIdx_append_of_length_le (by omega), hl, Nat.sub_self, List.eraseIdx_of_length_le (l := xs.take j) (by omega)]
  simp
theorem eraseIdx_take_ne {xs : List Int} {j k : Nat} (hk : k < xs.length) (hne : k ≠ j) : (xs.take (k + 1)).eraseIdx j = (xs.take k).eraseIdx j ++ [xs[k]] := by
  rw [List.take_succ_eq_append_getElem hk]
  rcases Nat.lt_or_ge j k with h | h
  · rw [List.eraseIdx_append_of_lt_length (by simp; omega)]
  · rw [List.eraseIdx_append_of_length_le (by simp; omega), List.eraseIdx_of_length_le (by simp; omega : (List.take k xs).length ≤ j)]
    have : ([xs[k]] : List Int).eraseIdx (j - (xs.take k).length) = [xs[k]] := List.eraseIdx_of_length_le (by simp; omega)
    rw [this]
theorem oth_eq {to : Int} {xs : List Int} {j : Nat} (hj : j < xs.length) : othL to j (xs.take (j + 1)) = othL to j (xs.take j) := by unfold othL; rw [eraseIdx_take_eq hj]
theorem oth_ne {to : Int} {xs : List Int} {j k : Nat} (hk : k < xs.length) (hne : k ≠ j) : othL to j (xs.take (k + 1)) = othL to j (xs.take k) ++ [prN (xs[k]?.getD 0) to] := by
  unfold othL; rw [eraseIdx_take_ne hk hne, List.map_append]; simp [List.getElem?_eq_getElem hk]
theorem cnt_eq {p : Int → Bool} {xs : List Int} {j : Nat} (hj : j < xs.length) : ((xs.take (j + 1)).eraseIdx j).countP p = ((xs.take j).eraseIdx j).countP p := by rw [eraseIdx_take_eq hj]
theorem cnt_ne {p : Int → Bool} {xs : List Int} {j k : Nat} (hk : k < xs.length) (hne : k ≠ j) : ((xs.take (k + 1)).eraseIdx j).countP p = ((xs.take k).eraseIdx j).countP p + if p (xs[k]?.getD 0) then 1 else 0 := by
  rw [eraseIdx_take_ne hk hne, List.countP_append]; simp [List.getElem?_eq_getElem hk, List.countP_cons]

theorem cnt_erase (p : Int → Bool) (xs : List Int) (j : Nat) (hj : j < xs.length) : (xs.eraseIdx j).countP p + (if p xs[j] then 1 else 0) = xs.countP p := by
  have h : xs = xs.take j ++ xs[j] :: xs.drop (j + 1) := by simp
  rw [List.eraseIdx_eq_take_drop_succ, List.countP_append]
  conv => rhs; rw [h, List.countP_append, List.countP_cons]
  omega

/-- What is lost by a probe. -/
def lostB (to : Int) (s : Int) : Bool := dtB s && !dtB (prN s to)
theorem lost_1 (s : Int) : lostB 1 s = false := by
  simp only [lostB, prN, if_pos, prS]
  by_cases h : dtB s = true
  · simp only [dtB, decide_eq_true_eq] at h
    rw [if_neg (by omega), if_pos h]
    simp [dtB]
  · simp [h]
theorem dt_ow (s : Int) (h : dtB s = true) : owB s = true := by simp only [dtB, owB, decide_eq_true_eq] at *; omega
theorem lost_ow (to s : Int) (h : lostB to s = true) : owB s = true := dt_ow s (by simp [lostB] at h; exact h.1)

section
variable {xs : List Int} (h : Fits xs) {j : Nat} (hj : j < xs.length)
include h hj
theorem Fits.told : (xs.eraseIdx j).countP owB ≤ 1 := by have := cnt_erase owB xs j hj; have := h.ow; omega
theorem Fits.lost (to : Int) : (xs.eraseIdx j).countP (lostB to) ≤ 1 := Nat.le_trans (List.countP_mono_left fun x _ => lost_ow to x) (h.told hj)
omit h hj in
theorem lost_none (ys : List Int) : ys.countP (lostB 1) = 0 := List.countP_eq_zero.2 fun x _ => by simp [lost_1]
omit h hj in
theorem prS_is (s : Int) : isB (prS s) = true ∧ stB (prS s) = false := by
  unfold prS
  split
  · decide
  · split <;> decide
omit h hj in
theorem oth_is (to : Int) (j : Nat) (xs : List Int) : (othL to j xs).all isB = true := by
  rw [List.all_eq_true]
  intro x hx
  simp only [othL, List.mem_map] at hx
  obtain ⟨y, _, rfl⟩ := hx
  unfold prN
  split
  · exact (prS_is y).1
  · decide
omit h hj in
theorem oth_st (to : Int) (j : Nat) (xs : List Int) : (othL to j xs).countP stB = 0 := by
  rw [List.countP_eq_zero]
  intro x hx
  simp only [othL, List.mem_map] at hx
  obtain ⟨y, _, rfl⟩ := hx
  unfold prN
  split
  · simp [(prS_is y).2]
  · decide
omit h hj in
theorem oth_v0 (j : Nat) (xs : List Int) : (othL 0 j xs).countP vB = 0 := by
  rw [List.countP_eq_zero]
  intro x hx
  simp only [othL, List.mem_map] at hx
  obtain ⟨y, _, rfl⟩ := hx
  unfold prN
  rw [if_neg (by decide)]
  decide
omit h hj in
theorem oth_no (to : Int) (j : Nat) (xs : List Int) : (othL to j xs).countP noB = 0 := by
  rw [List.countP_eq_zero]
  intro x hx
  have := List.all_eq_true.1 (oth_is to j xs) x hx
  simp [noB, this]
theorem Fits.oth_ow : (othL 1 j xs).countP owB ≤ 1 := by
  unfold othL
  rw [List.countP_map]
  refine Nat.le_trans (List.countP_mono_left fun x _ hx => ?_) (h.told hj)
  simp only [Function.comp, prN, if_pos, prS, owB, decide_eq_true_eq] at hx ⊢
  split at hx
  · omega
  · split at hx <;> omega
omit h hj in
/-- A read is granted. -/
theorem grant1 (j : Nat) (xs : List Int) : grE 1 (othL 1 j xs) = 0 ∧ (grA 1 (othL 1 j xs) = if (othL 1 j xs).countP vB = 0 then 2 else 1) := by
  have h1 := oth_is 1 j xs
  have h2 := oth_st 1 j xs
  constructor
  · simp [grE, h1, h2]
  · simp [grA, h1, h2]
omit h hj in
theorem grant2 (j : Nat) (xs : List Int) : grE 2 (othL 0 j xs) = 0 ∧ grA 2 (othL 0 j xs) = 4 := by
  have h1 := oth_is 0 j xs
  have h2 := oth_st 0 j xs
  have h3 := oth_v0 j xs
  constructor
  · simp [grE, h1, h2, h3]
  · simp [grA, h1, h2, h3]
theorem Fits.keep1 : Fits (othL 1 j xs ++ [grA 1 (othL 1 j xs)]) := by
  have h1 := oth_no 1 j xs
  have h2 := h.oth_ow hj
  have h3 := oth_st 1 j xs
  have h4 := (grant1 j xs).2
  rw [h4]
  by_cases hv : (othL 1 j xs).countP vB = 0
  · have h5 : (othL 1 j xs).countP owB = 0 := by
      have := List.countP_mono_left (l := othL 1 j xs) (p := owB) (q := vB) fun x _ => ow_v x
      omega
    rw [if_pos hv]
    refine ⟨?_, ?_, ?_⟩ <;> simp only [List.countP_append, h1, h3, h5, hv]
    · decide
    · decide
    · exact .inr (by decide)
  · rw [if_neg hv]
    refine ⟨?_, ?_, ?_⟩ <;> simp only [List.countP_append, h1, h3]
    · decide
    · have : ([1] : List Int).countP owB = 0 := by decide
      omega
    · exact .inl (by decide)
omit h hj in
theorem keep2 (j : Nat) (xs : List Int) : Fits (othL 0 j xs ++ [grA 2 (othL 0 j xs)]) := by
  have h1 := oth_no 0 j xs
  have h3 := oth_st 0 j xs
  have h4 := (grant2 j xs).2
  have hv := oth_v0 j xs
  have h5 : (othL 0 j xs).countP owB = 0 := by
    have := List.countP_mono_left (l := othL 0 j xs) (p := owB) (q := vB) fun x _ => ow_v x
    omega
  rw [h4]
  refine ⟨?_, ?_, ?_⟩ <;> simp only [List.countP_append, h1, h3, h5, hv]
  · decide
  · decide
  · exact .inr (by decide)
end

end Go.Proofs.YtnbdaffbmpbfjaaDoor
