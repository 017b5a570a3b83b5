/- What this text holds: which notes lie in which lanes, in plain words: what was sent is what was taken and what is there. No condition. -/
import Derived.Test.YtkfnjpmigifomaaDoorKnd
import Derived.Test.YtkfnjpmigifomaaDoorFbU
namespace Go.Proofs.YtkfnjpmigifomaaDoor

/-- All notes, lane by lane. -/
def flatG (n : Nat) (G : Nat → List Nt) : List Nt := ((List.range n).map G).flatten
/-- A note's lane, among all. -/
def ixN (x : Nt) : Nat := x.c.toNat * 4 + (laneT x.k.toNat).toNat
def addN (G : Nat → List Nt) (x : Nt) : Nat → List Nt := upF G (ixN x) (G (ixN x) ++ [x])
def addL (G : Nat → List Nt) (xs : List Nt) : Nat → List Nt := xs.foldl addN G
theorem addL_snoc (G : Nat → List Nt) (xs : List Nt) (x : Nt) : addL G (xs ++ [x]) = addN (addL G xs) x := by simp [addL]
theorem flatG_succ (n : Nat) (G : Nat → List Nt) : flatG (n + 1) G = flatG n G ++ G n := by simp [flatG, List.range_succ]
theorem flatG_eq (n : Nat) (G G' : Nat → List Nt) (h : ∀ i, i < n → G i = G' i) : flatG n G = flatG n G' := by
  unfold flatG
  rw [List.map_congr_left (fun i hi => h i (List.mem_range.1 hi))]
theorem flatG_split (n : Nat) (G : Nat → List Nt) : ∀ i, i < n → ∃ r, ∀ l, (flatG n (upF G i l)).Perm (l ++ r) := by
  induction n with
  | zero => intro i h; omega
  | succ n ih =>
    intro i h
    by_cases hi : i = n
    · subst hi
      refine ⟨flatG i G, fun l => ?_⟩
      rw [flatG_succ, upF_same, flatG_eq i (upF G i l) G (fun j hj => upF_ne _ _ (by omega))]
      exact List.perm_append_comm
    · obtain ⟨r, hr⟩ := ih i (by omega)
      refine ⟨r ++ G n, fun l => ?_⟩
      rw [flatG_succ, upF_ne _ _ (Ne.symm hi), ← List.append_assoc]
      exact (hr l).append_right _
theorem upF_self {α : Type} (f : Nat → α) (i : Nat) : upF f i (f i) = f := by
  funext j
  by_cases h : j = i
  · subst h; rw [upF_same]
  · rw [upF_ne _ _ h]
theorem flatG_add {n : Nat} {G : Nat → List Nt} {x : Nt} (h : ixN x < n) : (flatG n (addN G x)).Perm (flatG n G ++ [x]) := by
  obtain ⟨r, hr⟩ := flatG_split n G _ h
  have h1 := hr (G (ixN x) ++ [x])
  have h2 := hr (G (ixN x))
  rw [upF_self] at h2
  refine h1.trans ?_
  rw [List.append_assoc]
  refine List.Perm.trans ?_ (h2.append_right [x]).symm
  rw [List.append_assoc]
  exact List.Perm.append_left _ List.perm_append_comm
theorem flatG_addL {n : Nat} : ∀ (xs : List Nt) (G : Nat → List Nt), (∀ x ∈ xs, ixN x < n) → (flatG n (addL G xs)).Perm (flatG n G ++ xs)
  | [], G, _ => by simp [addL]
  | x :: xs, G, h => by
    have h1 := flatG_addL xs (addN G x) (fun y hy => h y (List.mem_cons_of_mem _ hy))
    have h2 := flatG_add (G := G) (h x List.mem_cons_self)
    refine h1.trans ((h2.append_right xs).trans ?_)
    rw [List.append_assoc]
    exact List.Perm.refl _
theorem perm_erase : ∀ (l : List Nt) (i : Nat) (h : i < l.length), l.Perm (l[i] :: l.eraseIdx i)
  | [], i, h => by simp at h
  | x :: xs, 0, _ => by simp
  | x :: xs, i + 1, h => by
    have h1 := perm_erase xs i (by simpa using h)
    simp only [List.getElem_cons_succ, List.eraseIdx_cons_succ]
    exact (h1.cons x).trans (List.Perm.swap _ _ _)
theorem flatG_take {n : Nat} {G : Nat → List Nt} {i j : Nat} (h : i < n) (hj : j < (G i).length) : (flatG n G).Perm (atN (G i) j :: flatG n (upF G i ((G i).eraseIdx j))) := by
  obtain ⟨r, hr⟩ := flatG_split n G _ h
  have h1 := hr ((G i).eraseIdx j)
  have h2 := hr (G i)
  rw [upF_self] at h2
  have h3 : (atN (G i) j) = (G i)[j] := by simp [atN, hj]
  rw [h3]
  refine h2.trans ?_
  refine List.Perm.trans ?_ (List.Perm.cons _ h1.symm)
  exact (perm_erase _ _ hj).append_right r
theorem flatG_mem {n : Nat} {G : Nat → List Nt} {x : Nt} : x ∈ flatG n G ↔ ∃ i, i < n ∧ x ∈ G i := by
  unfold flatG
  rw [List.mem_flatten]
  constructor
  · rintro ⟨l, h1, h2⟩
    obtain ⟨i, hi, rfl⟩ := List.mem_map.1 h1
    exact ⟨i, List.mem_range.1 hi, h2⟩
  · rintro ⟨i, hi, h2⟩
    exact ⟨_, List.mem_map.2 ⟨i, List.mem_range.2 hi, rfl⟩, h2⟩
/-- A note that may be sent. -/
def gdN (c : Cfg) (x : Nt) : Prop := kindB x.k = true ∧ 0 ≤ x.c ∧ x.c < c.co
theorem laneT_bd (k : Nat) : 0 ≤ laneT k ∧ laneT k < 4 := by
  by_cases h : k < 14
  · have h1 : k = 0 ∨ k = 1 ∨ k = 2 ∨ k = 3 ∨ k = 4 ∨ k = 5 ∨ k = 6 ∨ k = 7 ∨ k = 8 ∨ k = 9 ∨ k = 10 ∨ k = 11 ∨ k = 12 ∨ k = 13 := by omega
    rcases h1 with rfl | rfl | rfl | rfl | rfl | rfl | rfl | rfl | rfl | rfl | rfl | rfl | rfl | rfl <;> decide
  · have : laneT k = 0 := by unfold laneT; rw [List.getElem?_eq_none (by simp; omega)]; rfl
    omega
theorem gdN.ix {c : Cfg} {x : Nt} {n : Nat} (h : gdN c x) (hn : (n : Int) = 4 * c.co) : ixN x < n := by
  obtain ⟨_, h1, h2⟩ := h
  have := laneT_bd x.k.toNat
  unfold ixN
  omega
/-- What is there, and where. -/
structure Inv (n : Nat) (G : Nat → List Nt) (there : List Nt) : Prop where
  perm : there.Perm (flatG n G)
  lane : ∀ i, i < n → ∀ x ∈ G i, kindB x.k = true ∧ 0 ≤ x.c ∧ ixN x = i
theorem Inv.len {n : Nat} {G : Nat → List Nt} {there : List Nt} (h : Inv n G there) : there.length = (flatG n G).length := h.perm.length_eq
theorem Inv.mem {n : Nat} {G : Nat → List Nt} {there : List Nt} (h : Inv n G there) {x : Nt} : x ∈ there ↔ x ∈ flatG n G := h.perm.mem_iff
theorem Inv.add {n : Nat} {c : Cfg} {G : Nat → List Nt} {there : List Nt} (hn : (n : Int) = 4 * c.co) (h : Inv n G there) {x : Nt} (hx : gdN c x) : Inv n (addN G x) (there ++ [x]) := by
  refine ⟨(h.perm.append_right _).trans (flatG_add (hx.ix hn)).symm, fun i hi y hy => ?_⟩
  unfold addN at hy
  by_cases e : i = ixN x
  · subst e
    rw [upF_same] at hy
    rcases List.mem_append.1 hy with h1 | h1
    · exact h.lane _ hi y h1
    · obtain rfl := List.mem_singleton.1 h1
      exact ⟨hx.1, hx.2.1, rfl⟩
  · rw [upF_ne _ _ e] at hy
    exact h.lane i hi y hy
theorem Inv.addL {n : Nat} {c : Cfg} (hn : (n : Int) = 4 * c.co) : ∀ (xs : List Nt) (G : Nat → List Nt) (there : List Nt), Inv n G there → (∀ x ∈ xs, gdN c x) → Inv n (addL G xs) (there ++ xs)
  | [], G, there, h, _ => by simpa [Go.Proofs.YtkfnjpmigifomaaDoor.addL] using h
  | x :: xs, G, there, h, hx => by
    have := Inv.addL hn xs (addN G x) (there ++ [x]) (h.add hn (hx x List.mem_cons_self)) (fun y hy => hx y (List.mem_cons_of_mem _ hy))
    rw [List.append_assoc] at this
    exact this
theorem Inv.take {n : Nat} {G : Nat → List Nt} {there : List Nt} (h : Inv n G there) {i j m : Nat} (hi : i < n) (hj : j < (G i).length) (hm : m < there.length) (he : atN there m = atN (G i) j) : Inv n (upF G i ((G i).eraseIdx j)) (there.eraseIdx m) := by
  have h1 : atN there m = there[m] := by simp [atN, hm]
  refine ⟨?_, fun k hk y hy => ?_⟩
  · have h2 := (perm_erase _ _ hm).symm
    have h3 := (h2.trans h.perm).trans (flatG_take hi hj)
    rw [← he, h1] at h3
    exact h3.cons_inv
  · by_cases e : k = i
    · subst e
      rw [upF_same] at hy
      exact h.lane k hk y (List.mem_of_mem_eraseIdx hy)
    · rw [upF_ne _ _ e] at hy
      exact h.lane k hk y hy
theorem Inv.there {n : Nat} {G : Nat → List Nt} {there : List Nt} (h : Inv n G there) {i j : Nat} (hi : i < n) (hj : j < (G i).length) : ∃ m, m < there.length ∧ atN there m = atN (G i) j := by
  have h1 : atN (G i) j = (G i)[j] := by simp [atN, hj]
  have h2 : (G i)[j] ∈ there := h.mem.2 (flatG_mem.2 ⟨i, hi, List.getElem_mem hj⟩)
  obtain ⟨m, hm, he⟩ := List.getElem_of_mem h2
  exact ⟨m, hm, by rw [h1, ← he]; simp [atN, hm]⟩
/-- What a note of lane (i, k) says of itself. -/
theorem Inv.at_ {n : Nat} {G : Nat → List Nt} {there : List Nt} (h : Inv n G there) {i k j : Nat} (hk : k < 4) (hi : i * 4 + k < n) (hj : j < (G (i * 4 + k)).length) : kindB (atN (G (i * 4 + k)) j).k = true ∧ (atN (G (i * 4 + k)) j).c = i ∧ laneT (atN (G (i * 4 + k)) j).k.toNat = k := by
  have h1 : atN (G (i * 4 + k)) j = (G (i * 4 + k))[j] := by simp [atN, hj]
  obtain ⟨h2, h3, h4⟩ := h.lane _ hi _ (List.getElem_mem hj)
  rw [h1]
  have := laneT_bd ((G (i * 4 + k))[j]).k.toNat
  unfold ixN at h4
  exact ⟨h2, by omega, by omega⟩
theorem Inv.nil (n : Nat) : Inv n (fun _ => []) [] := by
  refine ⟨?_, fun i hi x hx => by cases hx⟩
  have : flatG n (fun _ => []) = [] := by
    apply List.eq_nil_iff_forall_not_mem.2
    intro x hx
    obtain ⟨i, _, h⟩ := flatG_mem.1 hx
    cases h
  rw [this]

end Go.Proofs.YtkfnjpmigifomaaDoor
