/- What this text holds: the document's memory of chapter 2: how it lies, what a store to it leaves. No condition. -/
import Derived.Test.YtkfnjpmigifomaaDoorBankE
namespace Go.Proofs.YtkfnjpmigifomaaDoor
open Go.RowKit

/-- The cells of the document's memory. -/
def refV (m : Mm) (s : Value) (k : Nat) : Value := if k = 0 then s else if k = 1 then .int .i64 m.c.ba else if k < 6 then .int .i64 (m.rd (k - 2)) else .int .i64 (m.wr (k - 6))
def wordV (wd : Nat → Int) (k : Nat) : Value := .int .i64 (wd k)
structure Rk (w : World) (lo hi p q cap : Nat) (m : Mm) : Prop where
  ok : m.c.ok
  top : w.heap[p]? = some (.cells (tab 10 (refV m (.slice (some ⟨q, 0, none⟩) (2 * m.n) cap))).toArray 62 (0, 0))
  row : w.ownsRow lo 3 1 (.slice (some ⟨q, 0, none⟩) (2 * m.n) cap) (2 * m.n) (tab (2 * m.n) (wordV m.wd))
  bd : lo ≤ p ∧ p < hi ∧ lo ≤ q ∧ q < hi ∧ p ≠ q
  sz : hi ≤ w.heap.size
theorem Rk.keep {w w' : World} {lo hi p q cap : Nat} {m : Mm} (h : Rk w lo hi p q cap m) (hk : ∀ k, lo ≤ k → k < hi → w'.heap[k]? = w.heap[k]?) (hs : w.heap.size ≤ w'.heap.size) : Rk w' lo hi p q cap m := by
  obtain ⟨h1, h2, h3, h4, _⟩ := h.bd
  exact ⟨h.ok, (hk p h1 h2).trans h.top, row_keep h.row (fun g hg => by obtain rfl := Option.some.inj hg; exact hk _ h3 h4), h.bd, Nat.le_trans h.sz hs⟩
theorem Rk.ext {w w' : World} {lo hi p q cap : Nat} {m : Mm} (h : Rk w lo hi p q cap m) (hb : Below w.heap.size w w') : Rk w' lo hi p q cap m :=
  h.keep (fun k _ hk => hb.block k (by have := h.sz; omega)) hb.size
theorem Rk.rg {w w' : World} {lo hi p q cap lo' hi' : Nat} {m : Mm} (h : Rk w lo hi p q cap m) (hr : Rg lo' hi' w w') (hd : hi ≤ lo' ∨ hi' ≤ lo) : Rk w' lo hi p q cap m :=
  h.keep (fun k h1 h2 => hr.block k (by have := h.sz; omega) (by omega)) hr.size
theorem Rk.lt {w : World} {lo hi p q cap : Nat} {m : Mm} (h : Rk w lo hi p q cap m) : p < w.heap.size ∧ q < w.heap.size := by
  have := h.sz
  obtain ⟨_, h2, _, h4, _⟩ := h.bd
  omega
theorem Rk.at {w : World} {lo hi p q cap : Nat} {m : Mm} (h : Rk w lo hi p q cap m) (k : Nat) (hk : k < 10) : w.cell? ⟨p, k, none⟩ = some (refV m (.slice (some ⟨q, 0, none⟩) (2 * m.n) cap) k) := by
  have := tab_at (refV m (.slice (some ⟨q, 0, none⟩) (2 * m.n) cap)) hk
  simp only [World.cell?, h.top]
  simpa using this
theorem Rk.sl {w : World} {lo hi p q cap : Nat} {m : Mm} (h : Rk w lo hi p q cap m) : w.cell? ⟨p, 0, none⟩ = some (.slice (some ⟨q, 0, none⟩) (2 * m.n) cap) ∧ w.cell? ⟨p, 1, none⟩ = some (.int .i64 m.c.ba) := ⟨h.at 0 (by omega), h.at 1 (by omega)⟩
theorem Rk.rd {w : World} {lo hi p q cap : Nat} {m : Mm} (h : Rk w lo hi p q cap m) (i : Nat) (hi' : i < 4) : w.cell? ⟨p, 2 + i, none⟩ = some (.int .i64 (m.rd i)) := by
  rw [h.at (2 + i) (by omega)]
  simp [refV, show 2 + i ≠ 1 by omega, show 2 + i < 6 by omega]
theorem Rk.wr {w : World} {lo hi p q cap : Nat} {m : Mm} (h : Rk w lo hi p q cap m) (i : Nat) (hi' : i < 4) : w.cell? ⟨p, 6 + i, none⟩ = some (.int .i64 (m.wr i)) := by
  rw [h.at (6 + i) (by omega)]
  simp [refV, show 6 + i ≠ 1 by omega, show ¬ 6 + i < 6 by omega]
theorem Rk.wd {w : World} {lo hi p q cap : Nat} {m : Mm} (h : Rk w lo hi p q cap m) (i : Nat) (hi' : i < 2 * m.n) : w.cell? ⟨q, i, none⟩ = some (.int .i64 (m.wd i)) :=
  own_cell h.row (tab_at _ hi')
theorem Rk.fp {w : World} {lo hi p q cap : Nat} {m : Mm} (h : Rk w lo hi p q cap m) (i : Nat) : w.frozen? ⟨p, i, none⟩ = false := by simp [World.frozen?, h.top]
theorem Rk.fq {w : World} {lo hi p q cap : Nat} {m : Mm} (h : Rk w lo hi p q cap m) (i : Nat) : w.frozen? ⟨q, i, none⟩ = false := own_free h.row i
theorem Rk.cap {w : World} {lo hi p q cap : Nat} {m : Mm} (h : Rk w lo hi p q cap m) : 2 * m.n ≤ cap := by
  rcases h.row.2 with ⟨h0, _⟩ | ⟨g, c, cur, h0, _, _, x1, _⟩
  · cases h0
  · rw [(Value.slice.inj h0).2.2]; exact x1
/-- A store to a word. -/
theorem Rk.setW {w : World} {lo hi p q cap : Nat} {m : Mm} (h : Rk w lo hi p q cap m) (i : Nat) (v : Int) : Rk (w.setCell ⟨q, i, none⟩ (.int .i64 v)) lo hi p q cap { m with wd := updN m.wd i v } := by
  obtain ⟨_, _, _, _, d5⟩ := h.bd
  refine ⟨h.ok, (Below.heap_setCell _ _ _ _ d5).trans h.top, ?_, h.bd, by simpa using h.sz⟩
  have := own_set h.row i (.int .i64 v)
  rw [tab_set (g := wordV (updN m.wd i v)) (by simp [wordV]) (fun k _ hk => by simp [wordV, updN_ne _ _ hk])] at this
  exact this
theorem Rk.setP {w : World} {lo hi p q cap : Nat} {m : Mm} (h : Rk w lo hi p q cap m) (o : Nat) (v : Value) (m' : Mm) (hc : m'.c = m.c) (hw : m'.wd = m.wd) (hv : ∀ s, refV m' s o = v) (ho : ∀ s k, k < 10 → k ≠ o → refV m' s k = refV m s k) :
    Rk (w.setCell ⟨p, o, none⟩ v) lo hi p q cap m' := by
  have hn : m'.n = m.n := by unfold Mm.n; rw [hc]
  obtain ⟨_, _, _, _, d5⟩ := h.bd
  refine ⟨by rw [hc]; exact h.ok, ?_, ?_, h.bd, by simpa using h.sz⟩
  · have := Joins.block_setCell (i := o) h.top v
    rw [this, hn, ← tab_set (hv _) (ho _)]
    simp
  · rw [hn, hw]
    exact row_keep h.row fun g hg => Below.heap_setCell _ _ _ _ (by obtain rfl := Option.some.inj hg; exact fun e => d5 e.symm)
theorem Rk.setR {w : World} {lo hi p q cap : Nat} {m : Mm} (h : Rk w lo hi p q cap m) (i : Nat) (hi' : i < 4) (v : Int) : Rk (w.setCell ⟨p, 2 + i, none⟩ (.int .i64 v)) lo hi p q cap { m with rd := updN m.rd i v } := by
  refine h.setP _ _ _ rfl rfl (fun s => by simp [refV, show 2 + i ≠ 1 by omega, show 2 + i < 6 by omega]) fun s k hk hne => ?_
  simp only [refV]
  by_cases h0 : k = 0
  · rw [if_pos h0, if_pos h0]
  · rw [if_neg h0, if_neg h0]
    by_cases h1 : k = 1
    · rw [if_pos h1, if_pos h1]
    · rw [if_neg h1, if_neg h1]
      by_cases h6 : k < 6
      · rw [if_pos h6, if_pos h6, updN_ne _ _ (by omega)]
      · rw [if_neg h6, if_neg h6]
theorem Rk.setU {w : World} {lo hi p q cap : Nat} {m : Mm} (h : Rk w lo hi p q cap m) (i : Nat) (hi' : i < 4) (v : Int) : Rk (w.setCell ⟨p, 6 + i, none⟩ (.int .i64 v)) lo hi p q cap { m with wr := updN m.wr i v } := by
  refine h.setP _ _ _ rfl rfl (fun s => by simp [refV, show 6 + i ≠ 1 by omega, show ¬ 6 + i < 6 by omega]) fun s k hk hne => ?_
  simp only [refV]
  by_cases h0 : k = 0
  · rw [if_pos h0, if_pos h0]
  · rw [if_neg h0, if_neg h0]
    by_cases h1 : k = 1
    · rw [if_pos h1, if_pos h1]
    · rw [if_neg h1, if_neg h1]
      by_cases h6 : k < 6
      · rw [if_pos h6, if_pos h6]
      · rw [if_neg h6, if_neg h6, updN_ne _ _ (by omega)]
/-- The document's memory. -/
def Rm (w : World) (lo hi p : Nat) (m : Mm) : Prop := ∃ q cap, Rk w lo hi p q cap m
theorem Rm.ext {w w' : World} {lo hi p : Nat} {m : Mm} (h : Rm w lo hi p m) (hb : Below w.heap.size w w') : Rm w' lo hi p m := by
  obtain ⟨q, c, h⟩ := h; exact ⟨q, c, h.ext hb⟩
theorem Rm.rg {w w' : World} {lo hi p lo' hi' : Nat} {m : Mm} (h : Rm w lo hi p m) (hr : Rg lo' hi' w w') (hd : hi ≤ lo' ∨ hi' ≤ lo) : Rm w' lo hi p m := by
  obtain ⟨q, c, h⟩ := h; exact ⟨q, c, h.rg hr hd⟩
theorem Rm.sz {w : World} {lo hi p : Nat} {m : Mm} (h : Rm w lo hi p m) : hi ≤ w.heap.size ∧ lo ≤ p ∧ p < hi := by
  obtain ⟨q, c, h⟩ := h; exact ⟨h.sz, h.bd.1, h.bd.2.1⟩

end Go.Proofs.YtkfnjpmigifomaaDoor
