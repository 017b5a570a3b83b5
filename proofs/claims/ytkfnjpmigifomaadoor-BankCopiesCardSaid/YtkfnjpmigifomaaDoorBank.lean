/- What this text holds: a memory of banks in memory: how it lies, what a store to it leaves. No condition. -/
import Derived.Test.YtkfnjpmigifomaaDoorPlaceB
import Derived.Test.YtkfnjpmigifomaaDoorApp
import Derived.Test.YtkfnjpmigifomaaDoorRnd
import Derived.Lib.SmallJoins
namespace Go.Proofs.YtkfnjpmigifomaaDoor
open Go.RowKit

/-- Blocks of [lo, hi) alone were turned; blocks were added. -/
structure Rg (lo hi : Nat) (w w' : World) : Prop where
  os : w'.os = w.os
  tape : w'.tape = w.tape
  output : w'.output = w.output
  size : w.heap.size ≤ w'.heap.size
  block : ∀ k, k < w.heap.size → (k < lo ∨ hi ≤ k) → w'.heap[k]? = w.heap[k]?
theorem Rg.refl (lo hi : Nat) (w : World) : Rg lo hi w w := ⟨rfl, rfl, rfl, Nat.le_refl _, fun _ _ _ => rfl⟩
theorem Rg.of_below {lo hi : Nat} {w w' : World} (h : Below w.heap.size w w') : Rg lo hi w w' := ⟨h.os, h.tape, h.output, h.size, fun k hk _ => h.block k hk⟩
theorem Rg.trans {lo hi : Nat} {a b c : World} (h : Rg lo hi a b) (k : Rg lo hi b c) : Rg lo hi a c :=
  ⟨k.os.trans h.os, k.tape.trans h.tape, k.output.trans h.output, Nat.le_trans h.size k.size, fun j hj hn => (k.block j (Nat.lt_of_lt_of_le hj h.size) hn).trans (h.block j hj hn)⟩
theorem Rg.set {lo hi : Nat} (w : World) {b o : Nat} {bd : Option Nat} (v : Value) (h1 : lo ≤ b) (h2 : b < hi) : Rg lo hi w (w.setCell ⟨b, o, bd⟩ v) :=
  ⟨rfl, rfl, rfl, by simp, fun k _ hn => Below.heap_setCell _ _ _ _ (by show k ≠ b; omega)⟩
theorem Rg.below {lo hi : Nat} {w0 w w' : World} (h : Rg lo hi w w') (hb : Below w0.heap.size w0 w) (hl : w0.heap.size ≤ lo) : Below w0.heap.size w0 w' :=
  ⟨h.os.trans hb.os, h.tape.trans hb.tape, h.output.trans hb.output, Nat.le_trans hb.size h.size, fun k hk => (h.block k (Nat.lt_of_lt_of_le hk hb.size) (.inl (by omega))).trans (hb.block k hk)⟩
theorem Rg.mono {lo hi lo' hi' : Nat} {w w' : World} (h : Rg lo hi w w') (h1 : lo' ≤ lo) (h2 : hi ≤ hi') : Rg lo' hi' w w' :=
  ⟨h.os, h.tape, h.output, h.size, fun k hk hn => h.block k hk (by omega)⟩

/-- A row of cells by number. -/
def tab (n : Nat) (h : Nat → Value) : List Value := (List.range n).map h
@[simp] theorem tab_len (n : Nat) (h : Nat → Value) : (tab n h).length = n := by simp [tab]
theorem tab_at {n i : Nat} (h : Nat → Value) (hi : i < n) : (tab n h)[i]? = some (h i) := by simp [tab, hi]
theorem tab_ext {n : Nat} {h g : Nat → Value} (e : ∀ k, k < n → h k = g k) : tab n h = tab n g := by
  unfold tab
  exact List.map_congr_left fun k hk => e k (List.mem_range.1 hk)
theorem tab_set {n i : Nat} {h g : Nat → Value} {v : Value} (hv : g i = v) (e : ∀ k, k < n → k ≠ i → g k = h k) : (tab n h).set i v = tab n g := by
  apply List.ext_getElem?
  intro k
  by_cases hk : k < n
  · by_cases hki : i = k
    · subst hki
      rw [tab_at _ hk, hv]
      simp [hk]
    · rw [List.getElem?_set_ne hki, tab_at _ hk, tab_at _ hk, e k hk (fun x => hki x.symm)]
  · rw [List.getElem?_eq_none (by simp; omega), List.getElem?_eq_none (by simp; omega)]
theorem tab_two (n : Nat) (h : Nat → Value) : tab (n + 2) h = tab n h ++ [h n, h (n + 1)] := by
  unfold tab
  rw [List.range_succ, List.range_succ]
  simp

/-- What a memory holds. -/
structure Mm where
  c : Cfg
  wd : Nat → Int
  rd : Nat → Int
  wr : Nat → Int
def Mm.nb (m : Mm) : Nat := m.c.ba.toNat
theorem Mm.nb_of {m : Mm} (h : m.c.ok) : 1 ≤ m.nb ∧ m.nb ≤ 4 ∧ (m.nb : Int) = m.c.ba := by
  obtain ⟨_, _, _, _, _, _, h1, h2⟩ := h
  unfold Mm.nb
  omega
/-- How many of the first n lines lie in a bank. -/
def cntB (nb n i : Nat) : Nat := (n + nb - 1 - i) / nb
theorem cnt_lt {nb n l : Nat} (h1 : 1 ≤ nb) (h4 : nb ≤ 4) (h : l < n) : l / nb < cntB nb n (l % nb) := by
  unfold cntB
  have : nb = 1 ∨ nb = 2 ∨ nb = 3 ∨ nb = 4 := by omega
  rcases this with rfl | rfl | rfl | rfl <;> omega
theorem cnt_succ {nb n : Nat} (h1 : 1 ≤ nb) (h4 : nb ≤ 4) : cntB nb (n + 1) (n % nb) = cntB nb n (n % nb) + 1 ∧ cntB nb n (n % nb) = n / nb := by
  unfold cntB
  have : nb = 1 ∨ nb = 2 ∨ nb = 3 ∨ nb = 4 := by omega
  rcases this with rfl | rfl | rfl | rfl <;> omega
theorem cnt_other {nb n i : Nat} (h1 : 1 ≤ nb) (h4 : nb ≤ 4) (hi : i < nb) (hn : i ≠ n % nb) : cntB nb (n + 1) i = cntB nb n i := by
  unfold cntB
  have : nb = 1 ∨ nb = 2 ∨ nb = 3 ∨ nb = 4 := by omega
  rcases this with rfl | rfl | rfl | rfl <;> omega
theorem cnt_le {nb n i : Nat} (h1 : 1 ≤ nb) : cntB nb n i ≤ n := by
  unfold cntB
  rw [Nat.div_le_iff_le_mul_add_pred h1]
  have : n * 1 ≤ n * nb := Nat.mul_le_mul_left n h1
  rw [Nat.mul_comm nb n]
  omega
theorem cnt_zero {nb i : Nat} (h1 : 1 ≤ nb) : cntB nb 0 i = 0 := by
  unfold cntB
  exact Nat.div_eq_of_lt (by omega)

def bankV (m : Mm) (R : Nat → Value) (k : Nat) : Value := if k % 3 = 0 then .int .i64 (m.rd (k / 3)) else if k % 3 = 1 then .int .i64 (m.wr (k / 3)) else R (k / 3)
def lineV (wd : Nat → Int) (nb i k : Nat) : Value := .int .i64 (wd (2 * (k / 2 * nb + i) + k % 2))

/-- A memory whose first n lines there are. -/
structure Bk (w : World) (lo hi n p q : Nat) (R : Nat → Value) (m : Mm) : Prop where
  ok : m.c.ok
  top : ∃ cp, w.heap[p]? = some (.cells #[.int .i64 m.c.co, .int .i64 m.c.gr, .int .i64 m.c.se, .int .i64 m.c.wa, .int .i64 m.c.de, .int .i64 m.c.en, .int .i64 m.c.ba, .slice (some ⟨q, 0, none⟩) m.nb cp] 99 (0, 0)) ∧
    w.ownsRow lo 105 3 (.slice (some ⟨q, 0, none⟩) m.nb cp) m.nb (tab (m.nb * 3) (bankV m R))
  ln : ∀ i, i < m.nb → w.ownsRow lo 26 2 (R i) (cntB m.nb n i) (tab (cntB m.nb n i * 2) (lineV m.wd m.nb i))
  up : ∀ i, i < m.nb → ∀ b, (R i).ownBlock = some b → b < hi ∧ b ≠ p ∧ b ≠ q ∧ ∀ j, j < m.nb → j ≠ i → (R j).ownBlock ≠ some b
  bd : lo ≤ p ∧ p < hi ∧ lo ≤ q ∧ q < hi ∧ p ≠ q
  sz : hi ≤ w.heap.size
  gl : 1 < lo
theorem own_cell {w : World} {base e size n q c j : Nat} {xs : List Value} {u : Value} (h : w.ownsRow base e size (.slice (some ⟨q, 0, none⟩) n c) n xs) (hu : xs[j]? = some u) : w.cell? ⟨q, j, none⟩ = some u := by
  rcases h.2 with ⟨h0, _⟩ | ⟨g, cap, cur, h0, _, hg, _, _, _, ht⟩
  · cases h0
  · obtain rfl : q = g := by simpa using (Value.slice.inj h0).1
    rw [← ht, List.getElem?_take] at hu
    split at hu
    · simp only [World.cell?, hg]
      simpa using hu
    · cases hu
theorem own_free {w : World} {base e size n q c : Nat} {xs : List Value} (h : w.ownsRow base e size (.slice (some ⟨q, 0, none⟩) n c) n xs) (j : Nat) : w.frozen? ⟨q, j, none⟩ = false := by
  rcases h.2 with ⟨h0, _⟩ | ⟨g, cap, cur, h0, _, hg, _⟩
  · cases h0
  · obtain rfl : q = g := by simpa using (Value.slice.inj h0).1
    simp [World.frozen?, hg]
theorem own_set {w : World} {base e size n q c : Nat} {xs : List Value} (h : w.ownsRow base e size (.slice (some ⟨q, 0, none⟩) n c) n xs) (o : Nat) (v : Value) : (w.setCell ⟨q, o, none⟩ v).ownsRow base e size (.slice (some ⟨q, 0, none⟩) n c) n (xs.set o v) := by
  refine ⟨by simpa using h.1, ?_⟩
  rcases h.2 with ⟨h0, _⟩ | ⟨g, cap, cur, h0, hb, hg, x1, x2, x3, ht⟩
  · cases h0
  · obtain ⟨hq, _, hc⟩ := Value.slice.inj h0
    obtain rfl : q = g := by simpa using hq
    subst hc
    refine .inr ⟨q, c, cur.setIfInBounds o v, rfl, hb, ?_, x1, x2, by simpa using x3, ?_⟩
    · have := Joins.block_setCell (i := o) hg v
      simpa using this
    · rw [Array.toList_setIfInBounds, List.take_set, ht]
theorem own_ge {w : World} {base e size n b : Nat} {v : Value} {xs : List Value} (h : w.ownsRow base e size v n xs) (hb : v.ownBlock = some b) : base ≤ b := by
  rcases h.2 with ⟨rfl, _⟩ | ⟨g, cap, cur, rfl, hg, _⟩
  · cases hb
  · obtain rfl := Option.some.inj hb; exact hg
theorem Bk.keep {w w' : World} {lo hi n p q : Nat} {R : Nat → Value} {m : Mm} (h : Bk w lo hi n p q R m) (hk : ∀ k, lo ≤ k → k < hi → w'.heap[k]? = w.heap[k]?) (hs : w.heap.size ≤ w'.heap.size) : Bk w' lo hi n p q R m := by
  obtain ⟨h1, h2, h3, h4, _⟩ := h.bd
  obtain ⟨cp, t1, t2⟩ := h.top
  exact ⟨h.ok, ⟨cp, (hk p h1 h2).trans t1, row_keep t2 (fun g hg => by obtain rfl := Option.some.inj hg; exact hk _ h3 h4)⟩, fun i hi' => row_keep (h.ln i hi') (fun g hg => hk g (own_ge (h.ln i hi') hg) (h.up i hi' g hg).1), h.up, h.bd, Nat.le_trans h.sz hs, h.gl⟩
theorem Bk.ext {w w' : World} {lo hi n p q : Nat} {R : Nat → Value} {m : Mm} (h : Bk w lo hi n p q R m) (hb : Below w.heap.size w w') : Bk w' lo hi n p q R m :=
  h.keep (fun k _ hk => hb.block k (by have := h.sz; omega)) hb.size
theorem Bk.rg {w w' : World} {lo hi n p q lo' hi' : Nat} {R : Nat → Value} {m : Mm} (h : Bk w lo hi n p q R m) (hr : Rg lo' hi' w w') (hd : hi ≤ lo' ∨ hi' ≤ lo) : Bk w' lo hi n p q R m :=
  h.keep (fun k h1 h2 => hr.block k (by have := h.sz; omega) (by omega)) hr.size
theorem Bk.lt {w : World} {lo hi n p q : Nat} {R : Nat → Value} {m : Mm} (h : Bk w lo hi n p q R m) : p < w.heap.size ∧ q < w.heap.size := by
  have := h.sz
  obtain ⟨_, h2, _, h4, _⟩ := h.bd
  omega
theorem Bk.tops {w : World} {lo hi n p q : Nat} {R : Nat → Value} {m : Mm} (h : Bk w lo hi n p q R m) :
    ∃ cp, w.cell? ⟨p, 0, none⟩ = some (.int .i64 m.c.co) ∧ w.cell? ⟨p, 1, none⟩ = some (.int .i64 m.c.gr) ∧ w.cell? ⟨p, 2, none⟩ = some (.int .i64 m.c.se) ∧ w.cell? ⟨p, 3, none⟩ = some (.int .i64 m.c.wa) ∧ w.cell? ⟨p, 4, none⟩ = some (.int .i64 m.c.de) ∧ w.cell? ⟨p, 5, none⟩ = some (.int .i64 m.c.en) ∧ w.cell? ⟨p, 6, none⟩ = some (.int .i64 m.c.ba) ∧ w.cell? ⟨p, 7, none⟩ = some (.slice (some ⟨q, 0, none⟩) m.nb cp) ∧ m.nb ≤ cp := by
  obtain ⟨cp, t1, t2⟩ := h.top
  have hcp : m.nb ≤ cp := by
    rcases t2.2 with ⟨h0, _⟩ | ⟨g, cap, cur, h0, _, _, x1, _⟩
    · cases h0
    · rw [(Value.slice.inj h0).2.2]; exact x1
  refine ⟨cp, ?_⟩
  simp [World.cell?, t1, hcp]
theorem Bk.bank {w : World} {lo hi n p q : Nat} {R : Nat → Value} {m : Mm} (h : Bk w lo hi n p q R m) (i : Nat) (hi' : i < m.nb) :
    w.cell? ⟨q, i * 3, none⟩ = some (.int .i64 (m.rd i)) ∧ w.cell? ⟨q, i * 3 + 1, none⟩ = some (.int .i64 (m.wr i)) ∧ w.cell? ⟨q, i * 3 + 2, none⟩ = some (R i) := by
  obtain ⟨cp, _, h0⟩ := h.top
  have e0 : i * 3 / 3 = i := by omega
  have e1 : (i * 3 + 1) / 3 = i := by omega
  have e2 : (i * 3 + 2) / 3 = i := by omega
  refine ⟨own_cell h0 ?_, own_cell h0 ?_, own_cell h0 ?_⟩
  · rw [tab_at _ (by omega)]
    simp [bankV, e0]
  · rw [tab_at _ (by omega)]
    simp [bankV, e1]
  · rw [tab_at _ (by omega)]
    simp [bankV, e2]
theorem Bk.free {w : World} {lo hi n p q : Nat} {R : Nat → Value} {m : Mm} (h : Bk w lo hi n p q R m) (i : Nat) : w.frozen? ⟨q, i, none⟩ = false := by
  obtain ⟨cp, _, h0⟩ := h.top
  exact own_free h0 i
/-- Where a line's words lie. -/
theorem Bk.line {w : World} {lo hi n p q : Nat} {R : Nat → Value} {m : Mm} (h : Bk w lo hi n p q R m) (l : Nat) (hl : l < n) :
    ∃ b cap, R (l % m.nb) = .slice (some ⟨b, 0, none⟩) (cntB m.nb n (l % m.nb)) cap ∧ lo ≤ b ∧ b < hi ∧ l / m.nb < cntB m.nb n (l % m.nb) ∧ (∀ o, w.frozen? ⟨b, o, none⟩ = false) ∧
      w.cell? ⟨b, l / m.nb * 2, none⟩ = some (.int .i64 (m.wd (2 * l))) ∧ w.cell? ⟨b, l / m.nb * 2 + 1, none⟩ = some (.int .i64 (m.wd (2 * l + 1))) := by
  obtain ⟨n1, n4, _⟩ := Mm.nb_of h.ok
  have hi' : l % m.nb < m.nb := Nat.mod_lt _ n1
  have hc := cnt_lt n1 n4 hl
  have hln := h.ln _ hi'
  have hup := h.up _ hi'
  generalize hk : cntB m.nb n (l % m.nb) = k at *
  rcases hln.2 with ⟨_, h0⟩ | ⟨b, cap, cur, hR, hb, hg, _, _, _, ht⟩
  · exact absurd (Nat.lt_of_le_of_lt (Nat.zero_le _) hc) (by omega)
  · have hub := (hup b (by rw [hR]; rfl)).1
    have hdm : l / m.nb * m.nb + l % m.nb = l := Nat.div_add_mod' _ _
    have cell : ∀ j, j < k * 2 → w.cell? ⟨b, j, none⟩ = some (lineV m.wd m.nb (l % m.nb) j) := by
      intro j hj
      have h1 := tab_at (lineV m.wd m.nb (l % m.nb)) hj
      rw [← ht, List.getElem?_take, if_pos hj] at h1
      simp only [World.cell?, hg]
      simpa using h1
    have d0 : l / m.nb * 2 / 2 = l / m.nb := by omega
    have d1 : (l / m.nb * 2 + 1) / 2 = l / m.nb := by omega
    have e0 : l / m.nb * 2 % 2 = 0 := by omega
    have e1 : (l / m.nb * 2 + 1) % 2 = 1 := by omega
    refine ⟨b, cap, hR, hb, hub, hc, fun o => by simp [World.frozen?, hg], ?_, ?_⟩
    · rw [cell _ (by omega)]
      simp only [lineV, d0, e0, hdm, Nat.add_zero]
    · rw [cell _ (by omega)]
      simp only [lineV, d1, e1, hdm]

def updN {α : Type} (f : Nat → α) (i : Nat) (v : α) : Nat → α := fun k => if k = i then v else f k
@[simp] theorem updN_same {α : Type} (f : Nat → α) (i : Nat) (v : α) : updN f i v i = v := by simp [updN]
theorem updN_ne {α : Type} (f : Nat → α) {i k : Nat} (v : α) (h : k ≠ i) : updN f i v k = f k := by simp [updN, h]

/-- A store to a word of a line. -/
theorem Bk.setW {w : World} {lo hi n p q : Nat} {R : Nat → Value} {m : Mm} (h : Bk w lo hi n p q R m) (l : Nat) (hl : l < n) {b N cap : Nat} (hR : R (l % m.nb) = .slice (some ⟨b, 0, none⟩) N cap) (k : Nat) (hk : k < 2) (v : Int) :
    Bk (w.setCell ⟨b, l / m.nb * 2 + k, none⟩ (.int .i64 v)) lo hi n p q R { m with wd := updN m.wd (2 * l + k) v } := by
  obtain ⟨n1, n4, _⟩ := Mm.nb_of h.ok
  have hi' : l % m.nb < m.nb := Nat.mod_lt _ n1
  have hc := cnt_lt n1 n4 hl
  obtain ⟨u1, u2, u3, u4⟩ := h.up _ hi' b (by rw [hR]; rfl)
  have hdm : l / m.nb * m.nb + l % m.nb = l := Nat.div_add_mod' _ _
  have keep : ∀ g, g ≠ b → (w.setCell ⟨b, l / m.nb * 2 + k, none⟩ (.int .i64 v)).heap[g]? = w.heap[g]? := fun g hg => Below.heap_setCell _ _ _ _ hg
  obtain ⟨cp, t1, t2⟩ := h.top
  refine ⟨h.ok, ⟨cp, (keep p (fun e => u2 e.symm)).trans t1, row_keep t2 (fun g hg => by obtain rfl := Option.some.inj hg; exact keep _ (fun e => u3 e.symm))⟩, fun i hi2 => ?_, h.up, h.bd, by simpa using h.sz, h.gl⟩
  by_cases hil : i = l % m.nb
  · subst hil
    have hln := h.ln _ hi'
    refine ⟨by simp, ?_⟩
    rcases hln.2 with ⟨h0, _⟩ | ⟨b', cap', cur, hR', hb, hg, x1, x2, x3, ht⟩
    · rw [hR] at h0; cases h0
    · rw [hR] at hR'
      obtain ⟨hb', rfl, rfl⟩ := Value.slice.inj hR'
      obtain rfl : b = b' := by simpa using hb'
      refine .inr ⟨b, cap, cur.setIfInBounds (l / m.nb * 2 + k) (.int .i64 v), hR, hb, ?_, x1, x2, by simpa using x3, ?_⟩
      · have := Joins.block_setCell (i := l / m.nb * 2 + k) hg (.int .i64 v)
        simpa using this
      · rw [Array.toList_setIfInBounds, List.take_set]
        show (List.take (cntB m.nb n (l % m.nb) * 2) cur.toList).set (l / m.nb * 2 + k) (.int .i64 v) = tab (cntB m.nb n (l % m.nb) * 2) (lineV (updN m.wd (2 * l + k) v) m.nb (l % m.nb))
        rw [ht]
        show (tab (cntB m.nb n (l % m.nb) * 2) (lineV m.wd m.nb (l % m.nb))).set (l / m.nb * 2 + k) (.int .i64 v) = tab (cntB m.nb n (l % m.nb) * 2) (lineV (updN m.wd (2 * l + k) v) m.nb (l % m.nb))
        refine tab_set ?_ fun j hj hne => ?_
        · have d0 : (l / m.nb * 2 + k) / 2 = l / m.nb := by omega
          have e0 : (l / m.nb * 2 + k) % 2 = k := by omega
          simp only [lineV, d0, e0, hdm, updN_same]
        · simp only [lineV]
          rw [updN_ne]
          intro e
          have hj2 : j % 2 = k := by omega
          have e3 : j / 2 * m.nb + l % m.nb = l := by omega
          have e4 : j / 2 * m.nb = l / m.nb * m.nb := by omega
          have e5 := Nat.eq_of_mul_eq_mul_right n1 e4
          omega
  · have hln := row_keep (w' := w.setCell ⟨b, l / m.nb * 2 + k, none⟩ (.int .i64 v)) (h.ln i hi2) (fun g hg => keep g (fun e => by subst e; exact u4 i hi2 hil hg))
    have e : tab (cntB m.nb n i * 2) (lineV m.wd m.nb i) = tab (cntB m.nb n i * 2) (lineV (updN m.wd (2 * l + k) v) m.nb i) := tab_ext fun j hj => by
      simp only [lineV]
      rw [updN_ne]
      intro e
      have e3 : j / 2 * m.nb + i = l := by omega
      refine hil ?_
      have hi3 : i < m.nb := hi2
      rw [← e3, Nat.mul_comm, Nat.mul_add_mod, Nat.mod_eq_of_lt hi3]
    rw [e] at hln
    exact hln
/-- A store to a bank's counts. -/
theorem Bk.setC {w : World} {lo hi n p q : Nat} {R : Nat → Value} {m : Mm} (h : Bk w lo hi n p q R m) (o : Nat) (v : Value) (m' : Mm) (hc : m'.c = m.c) (hw : m'.wd = m.wd) (hv : bankV m' R o = v) (ho : ∀ k, k < m.nb * 3 → k ≠ o → bankV m' R k = bankV m R k) :
    Bk (w.setCell ⟨q, o, none⟩ v) lo hi n p q R m' := by
  have hnb : m'.nb = m.nb := by unfold Mm.nb; rw [hc]
  have hpq := h.bd.2.2.2.2
  obtain ⟨cp, t1, t2⟩ := h.top
  refine ⟨by rw [hc]; exact h.ok, ⟨cp, ?_, ?_⟩, fun i hi => ?_, by rw [hnb]; exact h.up, h.bd, by simpa using h.sz, h.gl⟩
  · rw [Below.heap_setCell _ _ _ _ hpq, hc, hnb]; exact t1
  · rw [hnb, ← tab_set hv ho]
    exact own_set t2 o v
  · rw [hnb] at hi
    rw [hnb, hw]
    exact row_keep (h.ln i hi) (fun g hg => Below.heap_setCell _ _ _ _ (h.up i hi g hg).2.2.1)
theorem Bk.setR {w : World} {lo hi n p q : Nat} {R : Nat → Value} {m : Mm} (h : Bk w lo hi n p q R m) (i : Nat) (v : Int) :
    Bk (w.setCell ⟨q, i * 3, none⟩ (.int .i64 v)) lo hi n p q R { m with rd := updN m.rd i v } := by
  have e0 : i * 3 / 3 = i := by omega
  refine h.setC _ _ _ rfl rfl (by simp [bankV, e0]) fun k hk hne => ?_
  simp only [bankV]
  by_cases h3 : k % 3 = 0
  · rw [if_pos h3, if_pos h3, updN_ne _ _ (by omega)]
  · rw [if_neg h3, if_neg h3]
theorem Bk.setU {w : World} {lo hi n p q : Nat} {R : Nat → Value} {m : Mm} (h : Bk w lo hi n p q R m) (i : Nat) (v : Int) :
    Bk (w.setCell ⟨q, i * 3 + 1, none⟩ (.int .i64 v)) lo hi n p q R { m with wr := updN m.wr i v } := by
  have e0 : (i * 3 + 1) / 3 = i := by omega
  refine h.setC _ _ _ rfl rfl (by simp [bankV, e0]) fun k hk hne => ?_
  simp only [bankV]
  by_cases h3 : k % 3 = 1
  · rw [if_pos h3, if_pos h3, updN_ne _ _ (by omega)]
  · rw [if_neg h3, if_neg h3]

end Go.Proofs.YtkfnjpmigifomaaDoor
