/- What this text holds: sending notes, in plain words. No condition. -/
import Derived.Test.YtkfnjpmigifomaaDoorPl05
import Derived.Test.YtkfnjpmigifomaaDoorKnk
namespace Go.Proofs.YtkfnjpmigifomaaDoor

def cntN (xs : List Nt) (i : Nat) : Nat := xs.countP (fun x => ixN x == i)
theorem cntN_snoc (xs : List Nt) (x : Nt) (i : Nat) : cntN (xs ++ [x]) i = cntN xs i + if ixN x = i then 1 else 0 := by
  unfold cntN
  rw [List.countP_append, List.countP_singleton]
  simp
theorem cntN_take (xs : List Nt) (k i : Nat) : cntN (xs.take k) i ≤ cntN xs i := (List.take_sublist k xs).countP_le
theorem cntN_len (xs : List Nt) (i : Nat) : cntN xs i ≤ xs.length := List.countP_le_length
theorem addL_len (xs : List Nt) : ∀ (G : Nat → List Nt) (i : Nat), (addL G xs i).length = (G i).length + cntN xs i := by
  induction xs with
  | nil => intro G i; simp [addL, cntN]
  | cons x xs ih =>
    intro G i
    have h1 : addL G (x :: xs) = addL (addN G x) xs := rfl
    rw [h1, ih]
    unfold addN cntN
    rw [List.countP_cons]
    by_cases h : i = ixN x
    · subst h
      rw [upF_same]
      simp
      omega
    · rw [upF_ne _ _ h]
      have h2 : (ixN x == i) = false := by simpa using fun e => h e.symm
      rw [h2]
      simp
theorem take_next (xs : List Nt) {k : Nat} (h : k < xs.length) : xs.take (k + 1) = xs.take k ++ [atN xs k] := by rw [List.take_succ_eq_append_getElem h]; simp [atN, h]
/-- The first thing that is wrong with some notes. -/
def firstBad (c : Cfg) : List Nt → Int
  | [] => 0
  | x :: xs => if chkN c x = 0 then firstBad c xs else chkN c x
def sendR (c : Cfg) (n : Nat) (G : Nat → List Nt) (xs : List Nt) : Int := if firstBad c xs = 0 then (if ∀ i, i < n → ((G i).length : Int) + cntN xs i ≤ c.de then 0 else 11) else firstBad c xs
theorem firstBad_at (c : Cfg) : ∀ (xs : List Nt) (k : Nat), k < xs.length → (∀ j, j < k → chkN c (atN xs j) = 0) → chkN c (atN xs k) ≠ 0 → firstBad c xs = chkN c (atN xs k)
  | [], k, h, _, _ => by simp at h
  | x :: xs, 0, _, _, h => by
    have h1 : atN (x :: xs) 0 = x := rfl
    rw [h1] at h ⊢
    unfold firstBad
    rw [if_neg h]
  | x :: xs, k + 1, hk, hj, h => by
    have h1 : ∀ j, atN (x :: xs) (j + 1) = atN xs j := fun j => rfl
    have h0 : chkN c x = 0 := hj 0 (by omega)
    rw [h1] at h ⊢
    unfold firstBad
    rw [if_pos h0]
    exact firstBad_at c xs k (by simpa using hk) (fun j hjk => by rw [← h1]; exact hj (j + 1) (by omega)) h
theorem firstBad_no (c : Cfg) : ∀ (xs : List Nt), (∀ j, j < xs.length → chkN c (atN xs j) = 0) → firstBad c xs = 0
  | [], _ => rfl
  | x :: xs, hj => by
    have h1 : ∀ j, atN (x :: xs) (j + 1) = atN xs j := fun j => rfl
    have h0 : chkN c x = 0 := hj 0 (by simp)
    unfold firstBad
    rw [if_pos h0]
    exact firstBad_no c xs (fun j hjk => by rw [← h1]; exact hj (j + 1) (by simpa using hjk))
theorem firstBad_all (c : Cfg) : ∀ (xs : List Nt), firstBad c xs = 0 → ∀ x ∈ xs, chkN c x = 0
  | [], _, x, hx => by cases hx
  | y :: xs, h, x, hx => by
    unfold firstBad at h
    by_cases h0 : chkN c y = 0
    · rw [if_pos h0] at h
      rcases List.mem_cons.1 hx with rfl | h1
      · exact h0
      · exact firstBad_all c xs h x h1
    · rw [if_neg h0] at h
      exact absurd h h0
theorem chk_gd {c : Cfg} {x : Nt} (h : chkN c x = 0) : gdN c x := by
  unfold chkN at h
  cases hk : kindB x.k with
  | false => rw [hk] at h; simp at h
  | true =>
    rw [hk] at h
    have hb := hk
    simp [kindB] at hb
    obtain ⟨k, hkk⟩ : ∃ k : Nat, x.k = k := ⟨x.k.toNat, by omega⟩
    have hkn : x.k.toNat = k := by omega
    rw [hkn] at h
    have hm : mayF c 1 (getF x 1) = true := by
      have h1 : k = 1 ∨ k = 2 ∨ k = 3 ∨ k = 4 ∨ k = 5 ∨ k = 6 ∨ k = 7 ∨ k = 8 ∨ k = 9 ∨ k = 10 ∨ k = 11 ∨ k = 12 ∨ k = 13 := by omega
      cases ha : mayF c 1 (getF x 1) with
      | true => rfl
      | false =>
        exfalso
        rcases h1 with rfl | rfl | rfl | rfl | rfl | rfl | rfl | rfl | rfl | rfl | rfl | rfl | rfl <;> simp [allF, fieldsT, ha] at h
    have h2 : mayF c 1 (getF x 1) = (decide (0 ≤ x.c) && decide (x.c < c.co)) := by simp [mayF, getF]
    rw [h2] at hm
    simp at hm
    exact ⟨hk, hm.1, hm.2⟩
theorem chk_res (c : Cfg) (x : Nt) : chkN c x = 0 ∨ chkN c x = 10 ∨ chkN c x = 15 := by
  unfold chkN
  split
  · split
    · exact .inl rfl
    · exact .inr (.inl rfl)
  · exact .inr (.inr rfl)
theorem sendR_all {c : Cfg} {n : Nat} {G : Nat → List Nt} {xs : List Nt} (h : sendR c n G xs = 0) : ∀ x ∈ xs, gdN c x := by
  intro x hx
  unfold sendR at h
  by_cases hf : firstBad c xs = 0
  · exact chk_gd (firstBad_all c xs hf x hx)
  · rw [if_neg hf] at h
    exact absurd h hf

end Go.Proofs.YtkfnjpmigifomaaDoor
