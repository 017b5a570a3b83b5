/- What this text holds: a fabric and the document's fabric, in plain words: they have the same notes in each lane. No condition. -/
import Derived.Test.YtkfnjpmigifomaaDoorRfA
namespace Go.Proofs.YtkfnjpmigifomaaDoor

theorem addL_eq (xs : List Nt) : ∀ (G : Nat → List Nt) (i : Nat), addL G xs i = G i ++ xs.filter (fun x => ixN x == i) := by
  induction xs with
  | nil => intro G i; simp [addL]
  | cons x xs ih =>
    intro G i
    have h1 : addL G (x :: xs) = addL (addN G x) xs := rfl
    rw [h1, ih]
    unfold addN
    by_cases h : i = ixN x
    · subst h
      rw [upF_same, List.filter_cons_of_pos (by simp), List.append_assoc]
      rfl
    · rw [upF_ne _ _ h, List.filter_cons_of_neg (by simpa using fun e => h e.symm)]
/-- The same notes in each lane. -/
structure Al (c : Cfg) (n : Nat) (G : Nat → List Nt) (xs : List Nt) : Prop where
  gd : ∀ x ∈ xs, gdN c x
  eq : ∀ i, i < n → G i = xs.filter (fun x => ixN x == i)
theorem isL_ix {c : Cfg} {x : Nt} (h : gdN c x) (i k : Nat) (hk : k < 4) : isL i k x = (ixN x == i * 4 + k) := by
  have h1 := laneT_bd x.k.toNat
  have h2 := h.2.1
  unfold isL ixN
  rw [laneR_of h.1, Bool.eq_iff_iff]
  simp only [Bool.and_eq_true, beq_iff_eq]
  omega
theorem isL_no {c : Cfg} {x : Nt} (h : gdN c x) (co la : Int) (hn : co < 0 ∨ c.co ≤ co ∨ la < 0 ∨ 4 ≤ la) : isL co la x = false := by
  have h1 := laneT_bd x.k.toNat
  have h2 := h.2
  unfold isL
  rw [laneR_of h.1, Bool.eq_false_iff]
  simp only [ne_eq, Bool.and_eq_true, beq_iff_eq]
  omega
section
variable {c : Cfg} {n : Nat} {G : Nat → List Nt} {xs : List Nt}
theorem Al.nil : Al c n (fun _ => []) [] := ⟨fun x hx => (by cases hx), fun i _ => rfl⟩
theorem Al.of (h : Al c n G xs) (i k : Nat) (hk : k < 4) (hi : i * 4 + k < n) : ofN xs i k = G (i * 4 + k) := by
  rw [h.eq _ hi]
  unfold ofN
  exact List.filter_congr (fun x hx => isL_ix (h.gd x hx) i k hk)
theorem Al.of_no (h : Al c n G xs) (co la : Int) (hn : co < 0 ∨ c.co ≤ co ∨ la < 0 ∨ 4 ≤ la) : ofN xs co la = [] := by
  unfold ofN
  rw [List.filter_eq_nil_iff]
  intro x hx
  rw [isL_no (h.gd x hx) co la hn]
  exact Bool.false_ne_true
theorem Al.add (h : Al c n G xs) {ys : List Nt} (hy : ∀ y ∈ ys, gdN c y) : Al c n (addL G ys) (xs ++ ys) := by
  refine ⟨fun x hx => (List.mem_append.1 hx).elim (h.gd x) (hy x), fun i hi => ?_⟩
  rw [addL_eq, h.eq i hi, List.filter_append]
theorem Al.flat (h : Al c n G xs) : flatG n G = flatG n (addL (fun _ => []) xs) := flatG_eq n _ _ (fun i hi => by rw [h.eq i hi, addL_eq, List.nil_append])
theorem Al.len (h : Al c n G xs) (hn : (n : Int) = 4 * c.co) : (flatG n G).length = xs.length := by
  rw [h.flat]
  have h1 := flatG_addL (n := n) xs (fun _ => []) (fun x hx => (h.gd x hx).ix hn)
  rw [h1.length_eq]
  have h2 : flatG n (fun _ => []) = [] := (Inv.nil n).perm.nil_eq.symm
  rw [h2]
  rfl
theorem Al.all (h : Al c n G xs) : ∀ m, m ≤ n → allTo xs m = flatG m G := by
  intro m
  induction m with
  | zero => intro _; rfl
  | succ m ih =>
    intro hm
    rw [flatG_succ, ← ih (by omega)]
    conv => lhs; unfold allTo
    rw [h.of (m / 4) (m % 4) (by omega) (by omega)]
    rw [show m / 4 * 4 + m % 4 = m by omega]
end
/-- What the document's Take leaves behind k rounds: not the j-th of those that P picks. -/
def remK (P : Nt → Bool) (xs : List Nt) (j : Nat) : Nat → List Nt
  | 0 => []
  | k + 1 => remK P xs j k ++ if P (atN xs k) && decide (((xs.take k).filter P).length = j) then [] else [atN xs k]
section
variable {P : Nt → Bool} {xs : List Nt} {j : Nat}
theorem take_nx {k : Nat} (h : k < xs.length) : xs.take (k + 1) = xs.take k ++ [atN xs k] := by
  rw [List.take_succ_eq_append_getElem h]; simp [atN, h]
theorem remK_succ (k : Nat) : remK P xs j (k + 1) = remK P xs j k ++ if P (atN xs k) && decide (((xs.take k).filter P).length = j) then [] else [atN xs k] := rfl
theorem remK_len : ∀ k, (remK P xs j k).length ≤ k := by
  intro k
  induction k with
  | zero => simp [remK]
  | succ k ih =>
    rw [remK_succ, List.length_append]
    split <;> simp <;> omega
theorem remK_mem : ∀ k, k ≤ xs.length → ∀ x ∈ remK P xs j k, x ∈ xs := by
  intro k
  induction k with
  | zero => intro _ x hx; cases hx
  | succ k ih =>
    intro hk x hx
    rw [remK_succ] at hx
    rcases List.mem_append.1 hx with h | h
    · exact ih (by omega) x h
    · split at h
      · cases h
      · obtain rfl := List.mem_singleton.1 h
        have h2 : k < xs.length := hk
        simp [atN, h2]
theorem remK_other {Q : Nt → Bool} (hQ : ∀ x ∈ xs, P x = true → Q x = false) : ∀ k, k ≤ xs.length → (remK P xs j k).filter Q = (xs.take k).filter Q := by
  intro k
  induction k with
  | zero => intro _; simp [remK]
  | succ k ih =>
    intro hk
    have hm : atN xs k ∈ xs := by
      have h2 : k < xs.length := hk
      simp [atN, h2]
    rw [take_nx hk, List.filter_append, ← ih (by omega)]
    rw [remK_succ, List.filter_append]
    congr 1
    by_cases h : (P (atN xs k) && decide (((xs.take k).filter P).length = j)) = true
    · rw [if_pos h]
      rw [Bool.and_eq_true] at h
      simp [hQ _ hm h.1]
    · rw [if_neg h]
theorem remK_same : ∀ k, k ≤ xs.length → (remK P xs j k).filter P = ((xs.take k).filter P).eraseIdx j := by
  intro k
  induction k with
  | zero => intro _; simp [remK]
  | succ k ih =>
    intro hk
    rw [take_nx hk, List.filter_append, remK_succ, List.filter_append, ih (by omega)]
    cases hp : P (atN xs k) with
    | false => simp [hp]
    | true =>
      by_cases h1 : ((xs.take k).filter P).length = j
      · rw [List.eraseIdx_append_of_length_le (by omega)]
        rw [show j - ((xs.take k).filter P).length = 0 by omega]
        rw [List.eraseIdx_of_length_le (by omega)]
        simp [h1, hp]
      · by_cases h2 : j < ((xs.take k).filter P).length
        · rw [List.eraseIdx_append_of_lt_length h2]
          simp [h1, hp]
        · rw [List.eraseIdx_append_of_length_le (by omega), List.eraseIdx_of_length_le (l := (xs.take k).filter P) (by omega)]
          have h3 : ([atN xs k].filter P).eraseIdx (j - ((xs.take k).filter P).length) = [atN xs k] := by
            simp only [hp, List.filter_cons_of_pos, List.filter_nil]
            exact List.eraseIdx_of_length_le (by simp; omega)
          rw [h3]
          simp [h1, hp]
end
section
variable {c : Cfg} {n : Nat} {G : Nat → List Nt} {xs : List Nt}
/-- What the document's Take leaves. -/
def remN (xs : List Nt) (co la : Int) (j : Nat) : List Nt := remK (isL co la) xs j xs.length
theorem Al.take (h : Al c n G xs) (i k j : Nat) (hk : k < 4) (hi : i * 4 + k < n) : Al c n (upF G (i * 4 + k) ((G (i * 4 + k)).eraseIdx j)) (remN xs i k j) := by
  unfold remN
  refine ⟨fun x hx => h.gd x (remK_mem _ (Nat.le_refl _) x hx), fun m hm => ?_⟩
  have hg : ∀ x ∈ remK (isL i k) xs j xs.length, gdN c x := fun x hx => h.gd x (remK_mem _ (Nat.le_refl _) x hx)
  by_cases e : m = i * 4 + k
  · subst e
    rw [upF_same, ← List.filter_congr (fun x hx => isL_ix (hg x hx) i k hk), remK_same _ (Nat.le_refl _), List.take_length]
    have := h.of i k hk hi
    unfold ofN at this
    rw [this]
  · rw [upF_ne _ _ e, remK_other (fun x hx hp => ?_) _ (Nat.le_refl _), List.take_length, h.eq m hm]
    rw [isL_ix (h.gd x hx) i k hk] at hp
    simp only [beq_iff_eq] at hp
    simp
    omega
/-- What the document's Send answers. -/
def sendD (c : Cfg) (n : Nat) (xs ys : List Nt) : Int := if firstBad c ys = 0 then (if ∀ i, i < n → ((ofN (xs ++ ys) ((i / 4 : Nat) : Int) ((i % 4 : Nat) : Int)).length : Int) ≤ c.de then 0 else 11) else firstBad c ys
theorem Al.send (h : Al c n G xs) (ys : List Nt) : sendD c n xs ys = sendR c n G ys := by
  unfold sendD sendR
  by_cases hf : firstBad c ys = 0
  · rw [if_pos hf, if_pos hf]
    have h2 := h.add (ys := ys) (fun y hy => chk_gd (firstBad_all c ys hf y hy))
    have h3 : ∀ i, i < n → ((ofN (xs ++ ys) ((i / 4 : Nat) : Int) ((i % 4 : Nat) : Int)).length : Int) = ((G i).length : Int) + cntN ys i := fun i hi => by
      rw [h2.of (i / 4) (i % 4) (by omega) (by omega), show i / 4 * 4 + i % 4 = i by omega, addL_len]
      simp
    have h4 : (∀ i, i < n → ((ofN (xs ++ ys) ((i / 4 : Nat) : Int) ((i % 4 : Nat) : Int)).length : Int) ≤ c.de) ↔ (∀ i, i < n → ((G i).length : Int) + cntN ys i ≤ c.de) :=
      ⟨fun h5 i hi => by rw [← h3 i hi]; exact h5 i hi, fun h5 i hi => by rw [h3 i hi]; exact h5 i hi⟩
    by_cases h5 : ∀ i, i < n → ((G i).length : Int) + cntN ys i ≤ c.de
    · rw [if_pos h5, if_pos (h4.2 h5)]
    · rw [if_neg h5, if_neg (fun h6 => h5 (h4.1 h6))]
  · rw [if_neg hf, if_neg hf]
end

end Go.Proofs.YtkfnjpmigifomaaDoor
