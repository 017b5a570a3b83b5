/- What this text holds: a word of a table; which it is. No condition. -/
import Derived.Test.YtjggnhcdnfmmeaaTblF
namespace Go.Proofs.Ytjggnhcdnfmmeaa
open Go.RowKit

theorem words_length (es : List En) : (wordsOf es).length = ngr es.length + es.length := by simp [wordsOf]
theorem word_first (es : List En) (k : Nat) (hk : k < es.length) : (wordsOf es)[((k : Int) / 4).toNat]?.getD 0 = grpW es (k / 4) := by
  have e : ((k : Int) / 4).toNat = k / 4 := by omega
  have h1 : k / 4 < ngr es.length := by unfold ngr; omega
  rw [e]
  unfold wordsOf
  rw [List.getElem?_append_left (by simp; exact h1)]
  simp [h1]
theorem word_own (es : List En) (k : Nat) (hk : k < es.length) : (wordsOf es)[(((es.length : Int) + 3) / 4 + k).toNat]?.getD 0 = entW (atE es k) := by
  have e : (((es.length : Int) + 3) / 4 + k).toNat = ngr es.length + k := by unfold ngr; omega
  rw [e]
  unfold wordsOf
  rw [List.getElem?_append_right (by simp)]
  simp [atE, hk]
theorem grp_allX {es : List En} {k : Nat} (hk : k < es.length) (h : grpOk es (k / 4) = true) : atE es k = ((atE es (4 * (k / 4))).1, false) := by
  unfold grpOk at h
  rw [List.all_eq_true] at h
  have := h (atE es k) (by
    rw [← atE_get hk]
    exact List.mem_iff_getElem.2 ⟨k % 4, by simp; omega, by simp; congr 1; omega⟩)
  simpa using this

set_option maxRecDepth 100000 in
theorem wordX_yes (p g : Nat) (es : List En) (i : Int) (w : World) (h : Tb w p g es) (hn : es.length ≤ 16) (hgood : Good es) (h0 : 0 ≤ i) (h1 : i < (wordsOf es).length) :
    Calls Try.prog 26 #[.pointer (some ⟨p, 0, none⟩), .int .i64 i] w fun e w' => e = .returned (.tuple #[.int .i64 ((wordsOf es)[i.toNat]?.getD 0), .int .i64 0]) ∧ Below w.heap.size w w' := by
  obtain ⟨k, rfl⟩ := Int.eq_ofNat_of_zero_le h0
  have hk : k < (wordsOf es).length := by omega
  have H := Lib.hid h
  have HG := Lib.hid hgood
  clear h hgood
  have hl : (wordsOf es).length ≤ 20 := by simp [wordsOf, ngr]; omega
  generalize hws : wordsOf es = ws at *
  have HW := Lib.hid hws
  clear hws
  have e0 : decide ((k : Int) < 0) = false := by simp
  have e1 : decide ((k : Int) ≥ (ws.length : Int)) = false := by simp; omega
  go_enter Try.func26, Try.ntmps26
  go_wp2_with fail
  have hW := words_any p g es _ H.out hn HG.out
  rw [HW.out] at hW
  refine hW.mono ?_
  clear hW
  rintro e w1 ⟨A, cap, rfl, hsl, _, hb1⟩
  obtain ⟨b, off, rfl, hbl, hcell⟩ := hsl (by omega)
  have hx := hcell k hk
  have HB := Lib.hid hb1
  clear hcell hb1
  go_wp2_with fail
  go_ret2
  refine ⟨?_, HB.out⟩
  simp [List.getElem?_eq_getElem hk]

/-- A walk's first word: it sends on, or it tells the entry, which is not locked then. -/
theorem first_word (es : List En) (k : Nat) (hk : k < es.length) (hn : es.length ≤ 16) (hg : Good es) :
    ((∀ w, Calls Try.prog 44 #[.int .i64 es.length, .int .i64 k, .int .i64 ((k : Int) / 4), .int .i64 (grpW es (k / 4))] w fun e w' => e = .returned (.tuple #[.int .i64 (((es.length : Int) + 3) / 4 + k), .agg #[.int .i64 0, .bool false], .bool false, .int .i64 0]) ∧ Below w.heap.size w w')) ∨
    ((atE es k).2 = false ∧ ∀ w, Calls Try.prog 44 #[.int .i64 es.length, .int .i64 k, .int .i64 ((k : Int) / 4), .int .i64 (grpW es (k / 4))] w fun e w' => e = .returned (.tuple #[.int .i64 0, .agg #[.int .i64 (atE es k).1, .bool false], .bool true, .int .i64 0]) ∧ Below w.heap.size w w') := by
  cases hq : grpOk es (k / 4)
  · refine .inl fun w => next_more es.length k _ _ w (by omega) (by omega) (by omega) (by omega) rfl ?_
    unfold grpW ngr
    rw [hq]
    simp
    omega
  · have he := grp_allX hk hq
    obtain ⟨g0, g4⟩ := hg k hk
    refine .inr ⟨by rw [he], fun w => next_plain es.length k _ _ (atE es k).1 w (by omega) (by omega) (by omega) (by omega) rfl ?_ g0 g4⟩
    unfold grpW
    rw [hq, he]
    rfl
theorem own_word (es : List En) (k : Nat) (hk : k < es.length) (hn : es.length ≤ 16) (hg : Good es) (w : World) :
    Calls Try.prog 44 #[.int .i64 es.length, .int .i64 k, .int .i64 (((es.length : Int) + 3) / 4 + k), .int .i64 (entW (atE es k))] w fun e w' => e = .returned (.tuple #[.int .i64 0, .agg #[.int .i64 (atE es k).1, .bool (atE es k).2], .bool true, .int .i64 0]) ∧ Below w.heap.size w w' := by
  obtain ⟨g0, g4⟩ := hg k hk
  exact next_own es.length k _ _ (atE es k).1 (atE es k).2 w (by omega) (by omega) (by omega) (by omega) rfl rfl g0 g4

end Go.Proofs.Ytjggnhcdnfmmeaa
