/- What this text holds: a memory of banks in memory: how it lies, what a store to it leaves. No condition. What this text holds: where a line and a word of a memory lie (find, word), Get, Set. Condition: the table of limits holds what its initialiser lays. What this text holds: a memory's Write and Scrub. Condition: the table of limits holds what its initialiser lays. What this text holds: a memory's Scrub. Condition: the table of limits holds what its initialiser lays. What this text holds: a new memory. Condition: the table of limits holds what its initialiser lays. What this text holds: clones of banks and of lines; a copy that is being made. No condition. What this text holds: a memory's Copy, walked. No condition. -/
import Derived.Test.YtkobeajbiendlaaDoorPla
import Derived.Test.YtkobeajbiendlaaDoorBas
import Derived.Lib.SmallJoins
import Derived.Deep.RegionHeld3
namespace Go.Proofs.YtkobeajbiendlaaDoor
open Go.RowKit

/-- Blocks of [lo, hi) alone were turned; blocks were added. -/
structure Rg (lo hi : Nat) (w w' : World) : Prop where
  os : w'.os = w.os
  tape : w'.tape = w.tape
  output : w'.output = w.output
  size : w.heap.size ≤ w'.heap.size
  block : ∀ k, k < w.heap.size → (k < lo ∨ hi ≤ k) → w'.heap[k]? = w.heap[k]?
theorem Rg.refl (lo hi : Nat) (w : World) : Rg lo hi w w := ⟨rfl, rfl, rfl, Nat.le_refl _, fun _ _ _ => rfl⟩
theorem Rg.of_below {lo hi : Nat} {w w' : World} (h : Below w.heap.size w w') : Rg lo hi w w' := ⟨h.os, h.tape, h.output, h.size, fun k hk _ => h.block k hk⟩
theorem Rg.trans {lo hi : Nat} {a b c : World} (h : Rg lo hi a b) (k : Rg lo hi b c) : Rg lo hi a c :=
  ⟨k.os.trans h.os, k.tape.trans h.tape, k.output.trans h.output, Nat.le_trans h.size k.size, fun j hj hn => (k.block j (Nat.lt_of_lt_of_le hj h.size) hn).trans (h.block j hj hn)⟩
theorem Rg.set {lo hi : Nat} (w : World) {b o : Nat} {bd : Option Nat} (v : Value) (h1 : lo ≤ b) (h2 : b < hi) : Rg lo hi w (w.setCell ⟨b, o, bd⟩ v) :=
  ⟨rfl, rfl, rfl, by simp, fun k _ hn => Below.heap_setCell _ _ _ _ (by show k ≠ b; omega)⟩
theorem Rg.below {lo hi : Nat} {w0 w w' : World} (h : Rg lo hi w w') (hb : Below w0.heap.size w0 w) (hl : w0.heap.size ≤ lo) : Below w0.heap.size w0 w' :=
  ⟨h.os.trans hb.os, h.tape.trans hb.tape, h.output.trans hb.output, Nat.le_trans hb.size h.size, fun k hk => (h.block k (Nat.lt_of_lt_of_le hk hb.size) (.inl (by omega))).trans (hb.block k hk)⟩
theorem Rg.mono {lo hi lo' hi' : Nat} {w w' : World} (h : Rg lo hi w w') (h1 : lo' ≤ lo) (h2 : hi ≤ hi') : Rg lo' hi' w w' :=
  ⟨h.os, h.tape, h.output, h.size, fun k hk hn => h.block k hk (by omega)⟩

/-- A row of cells by number. -/
def tab (n : Nat) (h : Nat → Value) : List Value := (List.range n).map h
@[simp] theorem tab_len (n : Nat) (h : Nat → Value) : (tab n h).length = n := by simp [tab]
theorem tab_at {n i : Nat} (h : Nat → Value) (hi : i < n) : (tab n h)[i]? = some (h i) := by simp [tab, hi]
theorem tab_ext {n : Nat} {h g : Nat → Value} (e : ∀ k, k < n → h k = g k) : tab n h = tab n g := by
  unfold tab
  exact List.map_congr_left fun k hk => e k (List.mem_range.1 hk)
theorem tab_set {n i : Nat} {h g : Nat → Value} {v : Value} (hv : g i = v) (e : ∀ k, k < n → k ≠ i → g k = h k) : (tab n h).set i v = tab n g := by
  apply List.ext_getElem?
  intro k
  by_cases hk : k < n
  · by_cases hki : i = k
    · subst hki
      rw [tab_at _ hk, hv]
      simp [hk]
    · rw [List.getElem?_set_ne hki, tab_at _ hk, tab_at _ hk, e k hk (fun x => hki x.symm)]
  · rw [List.getElem?_eq_none (by simp; omega), List.getElem?_eq_none (by simp; omega)]
theorem tab_two (n : Nat) (h : Nat → Value) : tab (n + 2) h = tab n h ++ [h n, h (n + 1)] := by
  unfold tab
  rw [List.range_succ, List.range_succ]
  simp

/-- What a memory holds. -/
structure Mm where
  c : Cfg
  wd : Nat → Int
  rd : Nat → Int
  wr : Nat → Int
def Mm.nb (m : Mm) : Nat := m.c.ba.toNat
theorem Mm.nb_of {m : Mm} (h : m.c.ok) : 1 ≤ m.nb ∧ m.nb ≤ 4 ∧ (m.nb : Int) = m.c.ba := by
  obtain ⟨_, _, _, _, _, _, h1, h2⟩ := h
  unfold Mm.nb
  omega
/-- How many of the first n lines lie in a bank. -/
def cntB (nb n i : Nat) : Nat := (n + nb - 1 - i) / nb
theorem cnt_lt {nb n l : Nat} (h1 : 1 ≤ nb) (h4 : nb ≤ 4) (h : l < n) : l / nb < cntB nb n (l % nb) := by
  unfold cntB
  have : nb = 1 ∨ nb = 2 ∨ nb = 3 ∨ nb = 4 := by omega
  rcases this with rfl | rfl | rfl | rfl <;> omega
theorem cnt_succ {nb n : Nat} (h1 : 1 ≤ nb) (h4 : nb ≤ 4) : cntB nb (n + 1) (n % nb) = cntB nb n (n % nb) + 1 ∧ cntB nb n (n % nb) = n / nb := by
  unfold cntB
  have : nb = 1 ∨ nb = 2 ∨ nb = 3 ∨ nb = 4 := by omega
  rcases this with rfl | rfl | rfl | rfl <;> omega
theorem cnt_other {nb n i : Nat} (h1 : 1 ≤ nb) (h4 : nb ≤ 4) (hi : i < nb) (hn : i ≠ n % nb) : cntB nb (n + 1) i = cntB nb n i := by
  unfold cntB
  have : nb = 1 ∨ nb = 2 ∨ nb = 3 ∨ nb = 4 := by omega
  rcases this with rfl | rfl | rfl | rfl <;> omega
theorem cnt_le {nb n i : Nat} (h1 : 1 ≤ nb) : cntB nb n i ≤ n := by
  unfold cntB
  rw [Nat.div_le_iff_le_mul_add_pred h1]
  have : n * 1 ≤ n * nb := Nat.mul_le_mul_left n h1
  rw [Nat.mul_comm nb n]
  omega
theorem cnt_zero {nb i : Nat} (h1 : 1 ≤ nb) : cntB nb 0 i = 0 := by
  unfold cntB
  exact Nat.div_eq_of_lt (by omega)

def bankV (m : Mm) (R : Nat → Value) (k : Nat) : Value := if k % 3 = 0 then .int .i64 (m.rd (k / 3)) else if k % 3 = 1 then .int .i64 (m.wr (k / 3)) else R (k / 3)
def lineV (wd : Nat → Int) (nb i k : Nat) : Value := .int .i64 (wd (2 * (k / 2 * nb + i) + k % 2))

/-- A memory whose first n lines there are. -/
structure Bk (w : World) (lo hi n p q : Nat) (R : Nat → Value) (m : Mm) : Prop where
  ok : m.c.ok
  top : ∃ cp, w.heap[p]? = some (.cells #[.int .i64 m.c.co, .int .i64 m.c.gr, .int .i64 m.c.se, .int .i64 m.c.wa, .int .i64 m.c.de, .int .i64 m.c.en, .int .i64 m.c.ba, .slice (some ⟨q, 0, none⟩) m.nb cp] 151 (0, 0)) ∧
    w.ownsRow lo 157 3 (.slice (some ⟨q, 0, none⟩) m.nb cp) m.nb (tab (m.nb * 3) (bankV m R))
  ln : ∀ i, i < m.nb → w.ownsRow lo 159 2 (R i) (cntB m.nb n i) (tab (cntB m.nb n i * 2) (lineV m.wd m.nb i))
  up : ∀ i, i < m.nb → ∀ b, (R i).ownBlock = some b → b < hi ∧ b ≠ p ∧ b ≠ q ∧ ∀ j, j < m.nb → j ≠ i → (R j).ownBlock ≠ some b
  bd : lo ≤ p ∧ p < hi ∧ lo ≤ q ∧ q < hi ∧ p ≠ q
  sz : hi ≤ w.heap.size
  gl : 1 < lo
theorem own_cell {w : World} {base e size n q c j : Nat} {xs : List Value} {u : Value} (h : w.ownsRow base e size (.slice (some ⟨q, 0, none⟩) n c) n xs) (hu : xs[j]? = some u) : w.cell? ⟨q, j, none⟩ = some u := by
  rcases h.2 with ⟨h0, _⟩ | ⟨g, cap, cur, h0, _, hg, _, _, _, ht⟩
  · cases h0
  · obtain rfl : q = g := by simpa using (Value.slice.inj h0).1
    rw [← ht, List.getElem?_take] at hu
    split at hu
    · simp only [World.cell?, hg]
      simpa using hu
    · cases hu
theorem own_free {w : World} {base e size n q c : Nat} {xs : List Value} (h : w.ownsRow base e size (.slice (some ⟨q, 0, none⟩) n c) n xs) (j : Nat) : w.frozen? ⟨q, j, none⟩ = false := by
  rcases h.2 with ⟨h0, _⟩ | ⟨g, cap, cur, h0, _, hg, _⟩
  · cases h0
  · obtain rfl : q = g := by simpa using (Value.slice.inj h0).1
    simp [World.frozen?, hg]
theorem own_set {w : World} {base e size n q c : Nat} {xs : List Value} (h : w.ownsRow base e size (.slice (some ⟨q, 0, none⟩) n c) n xs) (o : Nat) (v : Value) : (w.setCell ⟨q, o, none⟩ v).ownsRow base e size (.slice (some ⟨q, 0, none⟩) n c) n (xs.set o v) := by
  refine ⟨by simpa using h.1, ?_⟩
  rcases h.2 with ⟨h0, _⟩ | ⟨g, cap, cur, h0, hb, hg, x1, x2, x3, ht⟩
  · cases h0
  · obtain ⟨hq, _, hc⟩ := Value.slice.inj h0
    obtain rfl : q = g := by simpa using hq
    subst hc
    refine .inr ⟨q, c, cur.setIfInBounds o v, rfl, hb, ?_, x1, x2, by simpa using x3, ?_⟩
    · have := Joins.block_setCell (i := o) hg v
      simpa using this
    · rw [Array.toList_setIfInBounds, List.take_set, ht]
theorem own_ge {w : World} {base e size n b : Nat} {v : Value} {xs : List Value} (h : w.ownsRow base e size v n xs) (hb : v.ownBlock = some b) : base ≤ b := by
  rcases h.2 with ⟨rfl, _⟩ | ⟨g, cap, cur, rfl, hg, _⟩
  · cases hb
  · obtain rfl := Option.some.inj hb; exact hg
theorem Bk.keep {w w' : World} {lo hi n p q : Nat} {R : Nat → Value} {m : Mm} (h : Bk w lo hi n p q R m) (hk : ∀ k, lo ≤ k → k < hi → w'.heap[k]? = w.heap[k]?) (hs : w.heap.size ≤ w'.heap.size) : Bk w' lo hi n p q R m := by
  obtain ⟨h1, h2, h3, h4, _⟩ := h.bd
  obtain ⟨cp, t1, t2⟩ := h.top
  exact ⟨h.ok, ⟨cp, (hk p h1 h2).trans t1, row_keep t2 (fun g hg => by obtain rfl := Option.some.inj hg; exact hk _ h3 h4)⟩, fun i hi' => row_keep (h.ln i hi') (fun g hg => hk g (own_ge (h.ln i hi') hg) (h.up i hi' g hg).1), h.up, h.bd, Nat.le_trans h.sz hs, h.gl⟩
theorem Bk.ext {w w' : World} {lo hi n p q : Nat} {R : Nat → Value} {m : Mm} (h : Bk w lo hi n p q R m) (hb : Below w.heap.size w w') : Bk w' lo hi n p q R m :=
  h.keep (fun k _ hk => hb.block k (by have := h.sz; omega)) hb.size
theorem Bk.rg {w w' : World} {lo hi n p q lo' hi' : Nat} {R : Nat → Value} {m : Mm} (h : Bk w lo hi n p q R m) (hr : Rg lo' hi' w w') (hd : hi ≤ lo' ∨ hi' ≤ lo) : Bk w' lo hi n p q R m :=
  h.keep (fun k h1 h2 => hr.block k (by have := h.sz; omega) (by omega)) hr.size
theorem Bk.lt {w : World} {lo hi n p q : Nat} {R : Nat → Value} {m : Mm} (h : Bk w lo hi n p q R m) : p < w.heap.size ∧ q < w.heap.size := by
  have := h.sz
  obtain ⟨_, h2, _, h4, _⟩ := h.bd
  omega
theorem Bk.tops {w : World} {lo hi n p q : Nat} {R : Nat → Value} {m : Mm} (h : Bk w lo hi n p q R m) :
    ∃ cp, w.cell? ⟨p, 0, none⟩ = some (.int .i64 m.c.co) ∧ w.cell? ⟨p, 1, none⟩ = some (.int .i64 m.c.gr) ∧ w.cell? ⟨p, 2, none⟩ = some (.int .i64 m.c.se) ∧ w.cell? ⟨p, 3, none⟩ = some (.int .i64 m.c.wa) ∧ w.cell? ⟨p, 4, none⟩ = some (.int .i64 m.c.de) ∧ w.cell? ⟨p, 5, none⟩ = some (.int .i64 m.c.en) ∧ w.cell? ⟨p, 6, none⟩ = some (.int .i64 m.c.ba) ∧ w.cell? ⟨p, 7, none⟩ = some (.slice (some ⟨q, 0, none⟩) m.nb cp) ∧ m.nb ≤ cp := by
  obtain ⟨cp, t1, t2⟩ := h.top
  have hcp : m.nb ≤ cp := by
    rcases t2.2 with ⟨h0, _⟩ | ⟨g, cap, cur, h0, _, _, x1, _⟩
    · cases h0
    · rw [(Value.slice.inj h0).2.2]; exact x1
  refine ⟨cp, ?_⟩
  simp [World.cell?, t1, hcp]
theorem Bk.bank {w : World} {lo hi n p q : Nat} {R : Nat → Value} {m : Mm} (h : Bk w lo hi n p q R m) (i : Nat) (hi' : i < m.nb) :
    w.cell? ⟨q, i * 3, none⟩ = some (.int .i64 (m.rd i)) ∧ w.cell? ⟨q, i * 3 + 1, none⟩ = some (.int .i64 (m.wr i)) ∧ w.cell? ⟨q, i * 3 + 2, none⟩ = some (R i) := by
  obtain ⟨cp, _, h0⟩ := h.top
  have e0 : i * 3 / 3 = i := by omega
  have e1 : (i * 3 + 1) / 3 = i := by omega
  have e2 : (i * 3 + 2) / 3 = i := by omega
  refine ⟨own_cell h0 ?_, own_cell h0 ?_, own_cell h0 ?_⟩
  · rw [tab_at _ (by omega)]
    simp [bankV, e0]
  · rw [tab_at _ (by omega)]
    simp [bankV, e1]
  · rw [tab_at _ (by omega)]
    simp [bankV, e2]
theorem Bk.free {w : World} {lo hi n p q : Nat} {R : Nat → Value} {m : Mm} (h : Bk w lo hi n p q R m) (i : Nat) : w.frozen? ⟨q, i, none⟩ = false := by
  obtain ⟨cp, _, h0⟩ := h.top
  exact own_free h0 i
/-- Where a line's words lie. -/
theorem Bk.line {w : World} {lo hi n p q : Nat} {R : Nat → Value} {m : Mm} (h : Bk w lo hi n p q R m) (l : Nat) (hl : l < n) :
    ∃ b cap, R (l % m.nb) = .slice (some ⟨b, 0, none⟩) (cntB m.nb n (l % m.nb)) cap ∧ lo ≤ b ∧ b < hi ∧ l / m.nb < cntB m.nb n (l % m.nb) ∧ (∀ o, w.frozen? ⟨b, o, none⟩ = false) ∧
      w.cell? ⟨b, l / m.nb * 2, none⟩ = some (.int .i64 (m.wd (2 * l))) ∧ w.cell? ⟨b, l / m.nb * 2 + 1, none⟩ = some (.int .i64 (m.wd (2 * l + 1))) := by
  obtain ⟨n1, n4, _⟩ := Mm.nb_of h.ok
  have hi' : l % m.nb < m.nb := Nat.mod_lt _ n1
  have hc := cnt_lt n1 n4 hl
  have hln := h.ln _ hi'
  have hup := h.up _ hi'
  generalize hk : cntB m.nb n (l % m.nb) = k at *
  rcases hln.2 with ⟨_, h0⟩ | ⟨b, cap, cur, hR, hb, hg, _, _, _, ht⟩
  · exact absurd (Nat.lt_of_le_of_lt (Nat.zero_le _) hc) (by omega)
  · have hub := (hup b (by rw [hR]; rfl)).1
    have hdm : l / m.nb * m.nb + l % m.nb = l := Nat.div_add_mod' _ _
    have cell : ∀ j, j < k * 2 → w.cell? ⟨b, j, none⟩ = some (lineV m.wd m.nb (l % m.nb) j) := by
      intro j hj
      have h1 := tab_at (lineV m.wd m.nb (l % m.nb)) hj
      rw [← ht, List.getElem?_take, if_pos hj] at h1
      simp only [World.cell?, hg]
      simpa using h1
    have d0 : l / m.nb * 2 / 2 = l / m.nb := by omega
    have d1 : (l / m.nb * 2 + 1) / 2 = l / m.nb := by omega
    have e0 : l / m.nb * 2 % 2 = 0 := by omega
    have e1 : (l / m.nb * 2 + 1) % 2 = 1 := by omega
    refine ⟨b, cap, hR, hb, hub, hc, fun o => by simp [World.frozen?, hg], ?_, ?_⟩
    · rw [cell _ (by omega)]
      simp only [lineV, d0, e0, hdm, Nat.add_zero]
    · rw [cell _ (by omega)]
      simp only [lineV, d1, e1, hdm]

def updN {α : Type} (f : Nat → α) (i : Nat) (v : α) : Nat → α := fun k => if k = i then v else f k
@[simp] theorem updN_same {α : Type} (f : Nat → α) (i : Nat) (v : α) : updN f i v i = v := by simp [updN]
theorem updN_ne {α : Type} (f : Nat → α) {i k : Nat} (v : α) (h : k ≠ i) : updN f i v k = f k := by simp [updN, h]

/-- A store to a word of a line. -/
theorem Bk.setW {w : World} {lo hi n p q : Nat} {R : Nat → Value} {m : Mm} (h : Bk w lo hi n p q R m) (l : Nat) (hl : l < n) {b N cap : Nat} (hR : R (l % m.nb) = .slice (some ⟨b, 0, none⟩) N cap) (k : Nat) (hk : k < 2) (v : Int) :
    Bk (w.setCell ⟨b, l / m.nb * 2 + k, none⟩ (.int .i64 v)) lo hi n p q R { m with wd := updN m.wd (2 * l + k) v } := by
  obtain ⟨n1, n4, _⟩ := Mm.nb_of h.ok
  have hi' : l % m.nb < m.nb := Nat.mod_lt _ n1
  have hc := cnt_lt n1 n4 hl
  obtain ⟨u1, u2, u3, u4⟩ := h.up _ hi' b (by rw [hR]; rfl)
  have hdm : l / m.nb * m.nb + l % m.nb = l := Nat.div_add_mod' _ _
  have keep : ∀ g, g ≠ b → (w.setCell ⟨b, l / m.nb * 2 + k, none⟩ (.int .i64 v)).heap[g]? = w.heap[g]? := fun g hg => Below.heap_setCell _ _ _ _ hg
  obtain ⟨cp, t1, t2⟩ := h.top
  refine ⟨h.ok, ⟨cp, (keep p (fun e => u2 e.symm)).trans t1, row_keep t2 (fun g hg => by obtain rfl := Option.some.inj hg; exact keep _ (fun e => u3 e.symm))⟩, fun i hi2 => ?_, h.up, h.bd, by simpa using h.sz, h.gl⟩
  by_cases hil : i = l % m.nb
  · subst hil
    have hln := h.ln _ hi'
    refine ⟨by simp, ?_⟩
    rcases hln.2 with ⟨h0, _⟩ | ⟨b', cap', cur, hR', hb, hg, x1, x2, x3, ht⟩
    · rw [hR] at h0; cases h0
    · rw [hR] at hR'
      obtain ⟨hb', rfl, rfl⟩ := Value.slice.inj hR'
      obtain rfl : b = b' := by simpa using hb'
      refine .inr ⟨b, cap, cur.setIfInBounds (l / m.nb * 2 + k) (.int .i64 v), hR, hb, ?_, x1, x2, by simpa using x3, ?_⟩
      · have := Joins.block_setCell (i := l / m.nb * 2 + k) hg (.int .i64 v)
        simpa using this
      · rw [Array.toList_setIfInBounds, List.take_set]
        show (List.take (cntB m.nb n (l % m.nb) * 2) cur.toList).set (l / m.nb * 2 + k) (.int .i64 v) = tab (cntB m.nb n (l % m.nb) * 2) (lineV (updN m.wd (2 * l + k) v) m.nb (l % m.nb))
        rw [ht]
        show (tab (cntB m.nb n (l % m.nb) * 2) (lineV m.wd m.nb (l % m.nb))).set (l / m.nb * 2 + k) (.int .i64 v) = tab (cntB m.nb n (l % m.nb) * 2) (lineV (updN m.wd (2 * l + k) v) m.nb (l % m.nb))
        refine tab_set ?_ fun j hj hne => ?_
        · have d0 : (l / m.nb * 2 + k) / 2 = l / m.nb := by omega
          have e0 : (l / m.nb * 2 + k) % 2 = k := by omega
          simp only [lineV, d0, e0, hdm, updN_same]
        · simp only [lineV]
          rw [updN_ne]
          intro e
          have hj2 : j % 2 = k := by omega
          have e3 : j / 2 * m.nb + l % m.nb = l := by omega
          have e4 : j / 2 * m.nb = l / m.nb * m.nb := by omega
          have e5 := Nat.eq_of_mul_eq_mul_right n1 e4
          omega
  · have hln := row_keep (w' := w.setCell ⟨b, l / m.nb * 2 + k, none⟩ (.int .i64 v)) (h.ln i hi2) (fun g hg => keep g (fun e => by subst e; exact u4 i hi2 hil hg))
    have e : tab (cntB m.nb n i * 2) (lineV m.wd m.nb i) = tab (cntB m.nb n i * 2) (lineV (updN m.wd (2 * l + k) v) m.nb i) := tab_ext fun j hj => by
      simp only [lineV]
      rw [updN_ne]
      intro e
      have e3 : j / 2 * m.nb + i = l := by omega
      refine hil ?_
      have hi3 : i < m.nb := hi2
      rw [← e3, Nat.mul_comm, Nat.mul_add_mod, Nat.mod_eq_of_lt hi3]
    rw [e] at hln
    exact hln
/-- A store to a bank's counts. -/
theorem Bk.setC {w : World} {lo hi n p q : Nat} {R : Nat → Value} {m : Mm} (h : Bk w lo hi n p q R m) (o : Nat) (v : Value) (m' : Mm) (hc : m'.c = m.c) (hw : m'.wd = m.wd) (hv : bankV m' R o = v) (ho : ∀ k, k < m.nb * 3 → k ≠ o → bankV m' R k = bankV m R k) :
    Bk (w.setCell ⟨q, o, none⟩ v) lo hi n p q R m' := by
  have hnb : m'.nb = m.nb := by unfold Mm.nb; rw [hc]
  have hpq := h.bd.2.2.2.2
  obtain ⟨cp, t1, t2⟩ := h.top
  refine ⟨by rw [hc]; exact h.ok, ⟨cp, ?_, ?_⟩, fun i hi => ?_, by rw [hnb]; exact h.up, h.bd, by simpa using h.sz, h.gl⟩
  · rw [Below.heap_setCell _ _ _ _ hpq, hc, hnb]; exact t1
  · rw [hnb, ← tab_set hv ho]
    exact own_set t2 o v
  · rw [hnb] at hi
    rw [hnb, hw]
    exact row_keep (h.ln i hi) (fun g hg => Below.heap_setCell _ _ _ _ (h.up i hi g hg).2.2.1)
theorem Bk.setR {w : World} {lo hi n p q : Nat} {R : Nat → Value} {m : Mm} (h : Bk w lo hi n p q R m) (i : Nat) (v : Int) :
    Bk (w.setCell ⟨q, i * 3, none⟩ (.int .i64 v)) lo hi n p q R { m with rd := updN m.rd i v } := by
  have e0 : i * 3 / 3 = i := by omega
  refine h.setC _ _ _ rfl rfl (by simp [bankV, e0]) fun k hk hne => ?_
  simp only [bankV]
  by_cases h3 : k % 3 = 0
  · rw [if_pos h3, if_pos h3, updN_ne _ _ (by omega)]
  · rw [if_neg h3, if_neg h3]
theorem Bk.setU {w : World} {lo hi n p q : Nat} {R : Nat → Value} {m : Mm} (h : Bk w lo hi n p q R m) (i : Nat) (v : Int) :
    Bk (w.setCell ⟨q, i * 3 + 1, none⟩ (.int .i64 v)) lo hi n p q R { m with wr := updN m.wr i v } := by
  have e0 : (i * 3 + 1) / 3 = i := by omega
  refine h.setC _ _ _ rfl rfl (by simp [bankV, e0]) fun k hk hne => ?_
  simp only [bankV]
  by_cases h3 : k % 3 = 1
  · rw [if_pos h3, if_pos h3, updN_ne _ _ (by omega)]
  · rw [if_neg h3, if_neg h3]

end Go.Proofs.YtkobeajbiendlaaDoor
namespace Go.Proofs.YtkobeajbiendlaaDoor
open Go.RowKit

/-- How many lines there are. -/
def Mm.n (m : Mm) : Nat := (lin m.c).toNat
theorem Mm.n_of (m : Mm) : (m.n : Int) = lin m.c := by have := (lin_bd m.c).1; unfold Mm.n; omega
theorem Mm.n_le (m : Mm) : m.n ≤ 32 := by have := (lin_bd m.c).2; unfold Mm.n; omega
theorem bfind_nil (x : Int) (w : World) : Calls Tryd.prog 93 #[.pointer none, .int .i64 x] w fun e w' => e = .returned (.tuple #[.pointer none, .int .i64 0, .int .i64 2]) ∧ w' = w := by
  go_enter Tryd.func93, Tryd.ntmps93
  go_wp2
  go_ret3
  exact ⟨rfl, rfl⟩
set_option maxHeartbeats 800000 in
theorem bfind_no {w : World} {lo hi p q : Nat} {R : Nat → Value} {m : Mm} (h : Bk w lo hi m.n p q R m) (hL : Lims w) (x : Int) (hx : x < 0 ∨ (m.n : Int) ≤ x) :
    Calls Tryd.prog 93 #[.pointer (some ⟨p, 0, none⟩), .int .i64 x] w fun e w' => e = .returned (.tuple #[.pointer none, .int .i64 0, .int .i64 10]) ∧ Below w.heap.size w w' := by
  have HL := Lib.hid hL
  have HX := Lib.hid (show x < 0 ∨ lin m.c ≤ x by rw [← Mm.n_of]; exact hx)
  obtain ⟨cp, k0, k1, k2, k3, k4, k5, k6, k7, hcp⟩ := h.tops
  obtain ⟨hp, hq⟩ := h.lt
  clear hL hx h
  go_enter Tryd.func93, Tryd.ntmps93
  go_wp2_with fail
  refine (bank_no m.c x w HL.out HX.out).mono ?_
  rintro e w1 ⟨rfl, hb⟩
  go_wp2_with fail
  go_ret3
  exact ⟨rfl, hb⟩
set_option maxHeartbeats 1600000 in
theorem bfind_ok {w : World} {lo hi p q : Nat} {R : Nat → Value} {m : Mm} (h : Bk w lo hi m.n p q R m) (hL : Lims w) (l : Nat) (hl : l < m.n) :
    Calls Tryd.prog 93 #[.pointer (some ⟨p, 0, none⟩), .int .i64 l] w fun e w' => e = .returned (.tuple #[.pointer (some ⟨q, l % m.nb * 3, none⟩), .int .i64 (l / m.nb : Nat), .int .i64 0]) ∧ Below w.heap.size w w' := by
  obtain ⟨n1, n4, hnb⟩ := Mm.nb_of h.ok
  have hlt : l % m.nb < m.nb := Nat.mod_lt _ n1
  have em : (l : Int) % m.c.ba = ((l % m.nb : Nat) : Int) := by rw [← hnb]; omega
  have ed : (l : Int) / m.c.ba = ((l / m.nb : Nat) : Int) := by rw [← hnb]; omega
  have HC := bank_ok m.c l w hL (by omega) (by rw [← Mm.n_of]; omega) (by omega)
  rw [em] at HC
  have HC := Lib.hid HC
  have HK := Lib.hid h
  obtain ⟨cp, k0, k1, k2, k3, k4, k5, k6, k7, hcp⟩ := h.tops
  obtain ⟨hp, hq⟩ := h.lt
  have hb0 : (m.c.ba == 0) = false := by rw [beq_eq_false_iff_ne]; omega
  have hba : 1 ≤ m.c.ba := by omega
  have hl32 : (l : Int) ≤ 32 := by have := m.n_le; omega
  have hj32 : ((l / m.nb : Nat) : Int) ≤ 32 := by have := Nat.div_le_self l m.nb; omega
  clear hL h em hnb
  generalize l % m.nb = i at HC hlt ⊢
  generalize l / m.nb = j at ed hj32 ⊢
  go_enter Tryd.func93, Tryd.ntmps93
  go_wp2_with fail
  refine HC.out.mono ?_
  rintro e w1 ⟨rfl, hb⟩
  have HB := Lib.hid hb
  obtain ⟨cp, k0, k1, k2, k3, k4, k5, k6, k7, hcp⟩ := (HK.out.ext hb).tops
  obtain ⟨hp, hq⟩ := (HK.out.ext hb).lt
  clear hb
  go_wp2_with fail
  refine region_past (by kernel_rfl) (by kernel_rfl) ?_; (repeat (go_big_quiet_step (fail))); refine wpQuiet_nil ?_; rintro _ ⟨pw, rfl⟩
  go_wp2_with fail
  go_ret3
  exact ⟨rfl, ext_past pw HB.out⟩
theorem bword_nil (x : Int) (w : World) : Calls Tryd.prog 84 #[.pointer none, .int .i64 x] w fun e w' => e = .returned (.tuple #[.pointer none, .int .i64 2]) ∧ w' = w := by
  go_enter Tryd.func84, Tryd.ntmps84
  go_wp2
  go_ret2
  exact ⟨rfl, rfl⟩
set_option maxHeartbeats 800000 in
theorem bword_no {w : World} {lo hi p q : Nat} {R : Nat → Value} {m : Mm} (h : Bk w lo hi m.n p q R m) (hL : Lims w) (x : Int) (hx : x < 0 ∨ 2 * (m.n : Int) ≤ x) :
    Calls Tryd.prog 84 #[.pointer (some ⟨p, 0, none⟩), .int .i64 x] w fun e w' => e = .returned (.tuple #[.pointer none, .int .i64 10]) ∧ Below w.heap.size w w' := by
  have HL := Lib.hid hL
  have HX := Lib.hid (show x < 0 ∨ lin m.c * 2 ≤ x by rw [← Mm.n_of]; omega)
  obtain ⟨cp, k0, k1, k2, k3, k4, k5, k6, k7, hcp⟩ := h.tops
  obtain ⟨hp, hq⟩ := h.lt
  clear hL hx h
  go_enter Tryd.func84, Tryd.ntmps84
  go_wp2_with fail
  refine (line_no m.c x w HL.out HX.out).mono ?_
  rintro e w1 ⟨rfl, hb⟩
  go_wp2_with fail
  go_ret2
  exact ⟨rfl, hb⟩
set_option maxHeartbeats 1600000 in
theorem bword_ok {w : World} {lo hi p q : Nat} {R : Nat → Value} {m : Mm} (h : Bk w lo hi m.n p q R m) (hL : Lims w) (l k : Nat) (hl : l < m.n) (hk : k < 2) {b cap : Nat} (hR : R (l % m.nb) = .slice (some ⟨b, 0, none⟩) (cntB m.nb m.n (l % m.nb)) cap) :
    Calls Tryd.prog 84 #[.pointer (some ⟨p, 0, none⟩), .int .i64 (2 * l + k : Nat)] w fun e w' => e = .returned (.tuple #[.pointer (some ⟨b, l / m.nb * 2 + k, none⟩), .int .i64 0]) ∧ Below w.heap.size w w' := by
  obtain ⟨n1, n4, hnb⟩ := Mm.nb_of h.ok
  have hlt : l % m.nb < m.nb := Nat.mod_lt _ n1
  have hjc := cnt_lt n1 n4 hl
  have em : ((2 * l + k : Nat) : Int) / 2 = (l : Int) := by omega
  have ek : ((2 * l + k : Nat) : Int) % 2 = (k : Int) := by omega
  have HC := line_ok m.c (2 * l + k : Nat) w hL (by omega) (by rw [← Mm.n_of]; omega)
  rw [em, ek] at HC
  have HC := Lib.hid HC
  have HK := Lib.hid h
  have HF := fun w1 (hb : Below w.heap.size w w1) => bfind_ok (h.ext hb) (Lims.ext hb hL) l hl
  have HR : ∀ w1, Below w.heap.size w w1 → w1.cell? ⟨q, l % m.nb * 3 + 2, none⟩ = some (.slice (some ⟨b, 0, none⟩) (cntB m.nb m.n (l % m.nb)) cap) := fun w1 hb => by rw [← hR]; exact ((h.ext hb).bank _ hlt).2.2
  obtain ⟨cp, k0, k1, k2, k3, k4, k5, k6, k7, hcp⟩ := h.tops
  obtain ⟨hp, hq⟩ := h.lt
  clear hL h em ek hnb hl hR
  generalize cntB m.nb m.n (l % m.nb) = N at HR hjc
  generalize l % m.nb = i at *
  generalize l / m.nb = j at *
  have HF := Lib.hid HF
  have HR := Lib.hid HR
  go_enter Tryd.func84, Tryd.ntmps84
  go_wp2_with fail
  refine HC.out.mono ?_
  rintro e w1 ⟨rfl, hb⟩
  have HB := Lib.hid hb
  clear hb k0 k1 k2 k3 k4 k5 k6 k7 hp hq HC
  go_wp2_with fail
  refine (HF.out w1 HB.out).mono ?_
  rintro e w2 ⟨rfl, hb⟩
  have HB2 := Lib.hid (ext_trans HB.out hb)
  have k2 := HR.out w2 (ext_trans HB.out hb)
  clear hb
  go_wp2_with fail
  go_ret2
  exact ⟨rfl, HB2.out⟩

/-- A memory. -/
def Bm (w : World) (lo hi p : Nat) (m : Mm) : Prop := ∃ q R, Bk w lo hi m.n p q R m
theorem Bm.ext {w w' : World} {lo hi p : Nat} {m : Mm} (h : Bm w lo hi p m) (hb : Below w.heap.size w w') : Bm w' lo hi p m := by
  obtain ⟨q, R, h⟩ := h; exact ⟨q, R, h.ext hb⟩
theorem Bm.rg {w w' : World} {lo hi p lo' hi' : Nat} {m : Mm} (h : Bm w lo hi p m) (hr : Rg lo' hi' w w') (hd : hi ≤ lo' ∨ hi' ≤ lo) : Bm w' lo hi p m := by
  obtain ⟨q, R, h⟩ := h; exact ⟨q, R, h.rg hr hd⟩
theorem Bm.sz {w : World} {lo hi p : Nat} {m : Mm} (h : Bm w lo hi p m) : hi ≤ w.heap.size ∧ lo ≤ p ∧ p < hi := by
  obtain ⟨q, R, h⟩ := h; exact ⟨h.sz, h.bd.1, h.bd.2.1⟩
theorem Bm.gl {w : World} {lo hi p : Nat} {m : Mm} (h : Bm w lo hi p m) : 1 < lo := by
  obtain ⟨q, R, h⟩ := h; exact h.gl
theorem Bm.ok {w : World} {lo hi p : Nat} {m : Mm} (h : Bm w lo hi p m) : m.c.ok := by
  obtain ⟨q, R, h⟩ := h; exact h.ok
/-- A word's cell. -/
theorem Bk.word {w : World} {lo hi p q : Nat} {R : Nat → Value} {m : Mm} (h : Bk w lo hi m.n p q R m) (i : Nat) (hi' : i < 2 * m.n) :
    ∃ b l k cap, l < m.n ∧ k < 2 ∧ i = 2 * l + k ∧ R (l % m.nb) = .slice (some ⟨b, 0, none⟩) (cntB m.nb m.n (l % m.nb)) cap ∧ lo ≤ b ∧ b < hi ∧ w.cell? ⟨b, l / m.nb * 2 + k, none⟩ = some (.int .i64 (m.wd i)) ∧ w.frozen? ⟨b, l / m.nb * 2 + k, none⟩ = false := by
  obtain ⟨b, cap, h1, h2, h3, _, h5, h6, h7⟩ := h.line (i / 2) (by omega)
  refine ⟨b, i / 2, i % 2, cap, by omega, by omega, by omega, h1, h2, h3, ?_, h5 _⟩
  have : i % 2 = 0 ∨ i % 2 = 1 := by omega
  rcases this with e | e
  · rw [e, Nat.add_zero, h6]
    congr 3
    omega
  · rw [e]
    rw [h7]
    congr 3
    omega

theorem bget_nil (x : Int) (w : World) : Calls Tryd.prog 67 #[.pointer none, .int .i64 x] w fun e w' => e = .returned (.tuple #[.int .i64 0, .int .i64 2]) ∧ w' = w := by
  go_enter Tryd.func67, Tryd.ntmps67
  go_wp2_with fail
  refine (bword_nil x w).mono ?_
  rintro e w1 ⟨rfl, rfl⟩
  go_wp2_with fail
  go_ret2
  exact ⟨rfl, rfl⟩
theorem bget_no {w : World} {lo hi p : Nat} {m : Mm} (h : Bm w lo hi p m) (hL : Lims w) (x : Int) (hx : x < 0 ∨ 2 * (m.n : Int) ≤ x) :
    Calls Tryd.prog 67 #[.pointer (some ⟨p, 0, none⟩), .int .i64 x] w fun e w' => e = .returned (.tuple #[.int .i64 0, .int .i64 10]) ∧ Below w.heap.size w w' := by
  obtain ⟨q, R, h⟩ := h
  have HC := Lib.hid (bword_no h hL x hx)
  clear h hL hx
  go_enter Tryd.func67, Tryd.ntmps67
  go_wp2_with fail
  refine HC.out.mono ?_
  rintro e w1 ⟨rfl, hb⟩
  go_wp2_with fail
  go_ret2
  exact ⟨rfl, hb⟩
theorem bget_ok {w : World} {lo hi p : Nat} {m : Mm} (h : Bm w lo hi p m) (hL : Lims w) (i : Nat) (hi' : i < 2 * m.n) :
    Calls Tryd.prog 67 #[.pointer (some ⟨p, 0, none⟩), .int .i64 i] w fun e w' => e = .returned (.tuple #[.int .i64 (m.wd i), .int .i64 0]) ∧ Below w.heap.size w w' := by
  obtain ⟨q, R, h⟩ := h
  obtain ⟨b, l, k, cap, hl, hk, e, hR, h1, h2, hc, _⟩ := h.word i hi'
  have HC := bword_ok h hL l k hl hk hR
  rw [← e] at HC
  have HC := Lib.hid HC
  have hbl : b < w.heap.size := by have := h.sz; omega
  clear h hL hi' e hR hl
  generalize l / m.nb * 2 + k = o at *
  go_enter Tryd.func67, Tryd.ntmps67
  go_wp2_with fail
  refine HC.out.mono ?_
  rintro e w1 ⟨rfl, hb⟩
  have HB := Lib.hid hb
  have hc1 := (hb.cell (p := ⟨b, o, none⟩) hbl).trans hc
  clear hb hc
  go_wp2_with fail
  go_ret2
  exact ⟨rfl, HB.out⟩

theorem bset_nil (x y : Int) (w : World) : Calls Tryd.prog 77 #[.pointer none, .int .i64 x, .int .i64 y] w fun e w' => e = .returned (.int .i64 2) ∧ w' = w := by
  go_enter Tryd.func77, Tryd.ntmps77
  go_wp2_with fail
  refine (bword_nil x w).mono ?_
  rintro e w1 ⟨rfl, rfl⟩
  go_wp2_with fail
  go_ret
  exact ⟨rfl, rfl⟩
theorem bset_no {w : World} {lo hi p : Nat} {m : Mm} (h : Bm w lo hi p m) (hL : Lims w) (x y : Int) (hx : x < 0 ∨ 2 * (m.n : Int) ≤ x) :
    Calls Tryd.prog 77 #[.pointer (some ⟨p, 0, none⟩), .int .i64 x, .int .i64 y] w fun e w' => e = .returned (.int .i64 10) ∧ Below w.heap.size w w' := by
  obtain ⟨q, R, h⟩ := h
  have HC := Lib.hid (bword_no h hL x hx)
  clear h hL hx
  go_enter Tryd.func77, Tryd.ntmps77
  go_wp2_with fail
  refine HC.out.mono ?_
  rintro e w1 ⟨rfl, hb⟩
  go_wp2_with fail
  go_ret
  exact ⟨rfl, hb⟩
theorem bset_ok {w : World} {lo hi p : Nat} {m : Mm} (h : Bm w lo hi p m) (hL : Lims w) (i : Nat) (hi' : i < 2 * m.n) (y : Int) :
    Calls Tryd.prog 77 #[.pointer (some ⟨p, 0, none⟩), .int .i64 i, .int .i64 y] w fun e w' => e = .returned (.int .i64 0) ∧ Bm w' lo hi p { m with wd := updN m.wd i y } ∧ Rg lo hi w w' := by
  obtain ⟨q, R, h⟩ := h
  obtain ⟨b, l, k, cap, hl, hk, e, hR, h1, h2, hc, hf⟩ := h.word i hi'
  have HC := bword_ok h hL l k hl hk hR
  rw [← e] at HC
  have HC := Lib.hid HC
  have hbl : b < w.heap.size := by have := h.sz; omega
  have HS : ∀ w1, Below w.heap.size w w1 → Bm (w1.setCell ⟨b, l / m.nb * 2 + k, none⟩ (.int .i64 y)) lo hi p { m with wd := updN m.wd i y } := fun w1 hb => by
    have := (h.ext hb).setW l hl hR k hk y
    rw [← e] at this
    exact ⟨q, R, this⟩
  have HS := Lib.hid HS
  have HT := Lib.hid (show lo ≤ b ∧ b < hi from ⟨h1, h2⟩)
  clear h hL hi' e hR hl h1 h2
  generalize l / m.nb * 2 + k = o at *
  go_enter Tryd.func77, Tryd.ntmps77
  go_wp2_with fail
  refine HC.out.mono ?_
  rintro e w1 ⟨rfl, hb⟩
  have HB := Lib.hid hb
  have hc1 := (hb.cell (p := ⟨b, o, none⟩) hbl).trans hc
  have hf1 := (hb.frozen (p := ⟨b, o, none⟩) hbl).trans hf
  clear hb hc hf
  go_wp2_with fail
  go_ret
  exact ⟨rfl, HS.out _ HB.out, (Rg.of_below HB.out).trans (Rg.set _ _ HT.out.1 HT.out.2)⟩

end Go.Proofs.YtkobeajbiendlaaDoor
namespace Go.Proofs.YtkobeajbiendlaaDoor
open Go.RowKit

theorem cell_at {w : World} {b : Nat} {cs : Array Value} {t : TypeId} {fr : Nat × Nat} (h : w.heap[b]? = some (.cells cs t fr)) (i : Nat) (v : Value) (hv : cs[i]? = some v) : w.cell? ⟨b, i, none⟩ = some v := by
  simp only [World.cell?, h]
  exact hv
/-- A memory behind a Write. -/
def Mm.put (m : Mm) (l : Nat) (x y : Int) : Mm := { m with wr := updN m.wr (l % m.nb) (wrap64 (m.wr (l % m.nb) + 1)), wd := updN (updN m.wd (2 * l) x) (2 * l + 1) y }
set_option maxHeartbeats 1600000 in
theorem bwrite_ok {w : World} {lo hi p : Nat} {m : Mm} (h : Bm w lo hi p m) (hL : Lims w) (l : Nat) (hl : l < m.n) (x y : Int) :
    Calls Tryd.prog 92 #[.pointer (some ⟨p, 0, none⟩), .int .i64 l, .agg #[.int .i64 x, .int .i64 y]] w fun e w' => e = .returned (.int .i64 0) ∧ Bm w' lo hi p (m.put l x y) ∧ Rg lo hi w w' := by
  obtain ⟨q, R, h⟩ := h
  obtain ⟨n1, n4, hnb⟩ := Mm.nb_of h.ok
  have hlt : l % m.nb < m.nb := Nat.mod_lt _ n1
  obtain ⟨b, cap, hR, h2, h3, hjc, hf, h6, h7⟩ := h.line l hl
  have HF := Lib.hid (fun w1 (hb : Below w.heap.size w w1) => bfind_ok (h.ext hb) (Lims.ext hb hL) l hl)
  have HK := Lib.hid (fun w1 (hb : Below w.heap.size w w1) => (h.ext hb).bank _ hlt)
  have HQ := Lib.hid (fun w1 (hb : Below w.heap.size w w1) => (h.ext hb).free)
  have HN := Lib.hid (fun w1 (hb : Below w.heap.size w w1) => (h.ext hb).lt)
  have HS := Lib.hid (fun w1 (hb : Below w.heap.size w w1) => show Bm (((w1.setCell ⟨q, l % m.nb * 3 + 1, none⟩ (.int .i64 (wrap64 (m.wr (l % m.nb) + 1)))).setCell ⟨b, l / m.nb * 2, none⟩ (.int .i64 x)).setCell ⟨b, l / m.nb * 2 + 1, none⟩ (.int .i64 y)) lo hi p (m.put l x y) from
    ⟨q, R, (((h.ext hb).setU (l % m.nb) (wrap64 (m.wr (l % m.nb) + 1))).setW l hl hR 0 (by omega) x).setW l hl hR 1 (by omega) y⟩)
  have HT := Lib.hid (show lo ≤ b ∧ b < hi ∧ lo ≤ q ∧ q < hi from ⟨h2, h3, h.bd.2.2.1, h.bd.2.2.2.1⟩)
  have hbl : b < w.heap.size := by have := h.sz; omega
  have hqb : q ≠ b := fun e => (h.up _ hlt b (by rw [hR]; rfl)).2.2.1 e.symm
  rw [hR] at HK
  clear h hL hl hR hnb h2 h3 n1 n4
  generalize m.put l x y = mm at HS ⊢
  generalize cntB m.nb m.n (l % m.nb) = N at *
  generalize m.wr (l % m.nb) = c at *
  generalize l % m.nb = i at *
  generalize l / m.nb = j at *
  go_enter Tryd.func92, Tryd.ntmps92
  go_wp2_with fail
  refine (HF.out _ (ext_alloc _ (Below.refl _ _))).mono ?_
  rintro e w1 ⟨rfl, hb⟩
  have HB := Lib.hid (ext_trans (ext_alloc _ (Below.refl _ _)) hb)
  obtain ⟨_, k1, k2⟩ := HK.out w1 HB.out
  obtain ⟨_, hq⟩ := HN.out w1 HB.out
  have hfq := HQ.out w1 HB.out
  have hbx := (hb.block w.heap.size (by simp)).trans (alNew rfl)
  have x0 := cell_at hbx 0 (.int .i64 x) rfl
  have x1 := cell_at hbx 1 (.int .i64 y) rfl
  have hxl := lt_of hbx
  have y0 := (HB.out.cell (p := ⟨b, j * 2, none⟩) hbl).trans h6
  have y1 := (HB.out.cell (p := ⟨b, j * 2 + 1, none⟩) hbl).trans h7
  have hf0 := fun o => (HB.out.frozen (p := ⟨b, o, none⟩) hbl).trans (hf o)
  have hbq : b ≠ q := fun e => hqb e.symm
  have hnx : w.heap.size ≠ q := by have := (HN.out w (Below.refl _ _)).2; omega
  have hbl1 : b < w1.heap.size := Nat.lt_of_lt_of_le hbl HB.out.size
  clear hb hbx h6 h7 hf
  go_wp2_with fail
  go_region
  go_wp2_with fail
  go_ret
  refine ⟨rfl, (HS.out w1 HB.out).ext (ext_drew (Below.refl _ _)), ?_⟩
  exact ((((Rg.of_below HB.out).trans (Rg.set _ _ HT.out.2.2.1 HT.out.2.2.2)).trans (Rg.set _ _ HT.out.1 HT.out.2.1)).trans (Rg.set _ _ HT.out.1 HT.out.2.1)).trans (Rg.of_below (ext_drew (Below.refl _ _)))

end Go.Proofs.YtkobeajbiendlaaDoor
namespace Go.Proofs.YtkobeajbiendlaaDoor
open Go.RowKit Go.Shelf
attribute [local go_sem] Oper.semAt_some

theorem Bk.hold {w w' : World} {lo hi n p q : Nat} {R : Nat → Value} {m : Mm} (h : Bk w lo hi n p q R m) {row : Option Nat} (hg : w.grownBy w' row) (hr : ∀ r, row = some r → ∃ o : Obj, w.heap[r]? = some o ∧ o.isCells = false) : Bk w' lo hi n p q R m := by
  have hrow : ∀ {v : Value} {base e size n : Nat} {xs : List Value}, w.ownsRow base e size v n xs → ∀ g, v.ownBlock = some g → w'.heap[g]? = w.heap[g]? := fun ho g hgb => by
    rcases ho.2 with ⟨h0, _⟩ | ⟨b, cap, cur, h1, _, h3, _⟩
    · rw [h0] at hgb; cases hgb
    · rw [h1] at hgb
      obtain rfl := Option.some.inj hgb
      exact (blk_held h3 hg hr).trans h3.symm
  obtain ⟨cp, t1, t2⟩ := h.top
  exact ⟨h.ok, ⟨cp, blk_held t1 hg hr, row_keep t2 (hrow t2)⟩, fun i hi' => row_keep (h.ln i hi') (hrow (h.ln i hi')), h.up, h.bd, Nat.le_trans h.sz hg.size, h.gl⟩
theorem Bm.hold {w w' : World} {lo hi p : Nat} {m : Mm} (h : Bm w lo hi p m) {row : Option Nat} (hg : w.grownBy w' row) (hr : ∀ r, row = some r → ∃ o : Obj, w.heap[r]? = some o ∧ o.isCells = false) : Bm w' lo hi p m := by
  obtain ⟨q, R, h⟩ := h; exact ⟨q, R, h.hold hg hr⟩
theorem ownFrom_rg {β : Type} {lo hi B : Nat} {w₀ : World} (hB : w₀.heap.size ≤ B) : OwnFrom B (fun (_ : β) W => Rg lo hi w₀ W) := fun _ A C row hs hg hr =>
  ⟨hg.os.trans hs.os, hg.tape.trans hs.tape, hg.output.trans hs.output, Nat.le_trans hs.size hg.size, fun k hk hn => (hg.block k (Nat.lt_of_lt_of_le hk hs.size) (fun e => by have := (hr k e.symm).1; omega)).trans (hs.block k hk hn)⟩
theorem Rg.from {lo hi B : Nat} {w w' : World} (h : Rg lo hi w w') (hB : hi ≤ B) : KeepsFrom B w w' :=
  ⟨h.size, fun k o hk1 hk2 _ => (h.block k (Array.getElem?_eq_some_iff.1 hk2).1 (.inr (by omega))).trans hk2⟩
/-- A memory behind the Writes of zero to lines. -/
def Mm.zeros (m : Mm) (ls : List Nat) : Mm := ls.foldl (fun m l => m.put l 0 0) m
theorem Mm.put_c (m : Mm) (l : Nat) (x y : Int) : (m.put l x y).c = m.c := rfl
theorem Mm.zeros_snoc (m : Mm) (ls : List Nat) (l : Nat) : m.zeros (ls ++ [l]) = (m.zeros ls).put l 0 0 := by simp [Mm.zeros]
theorem Mm.zeros_c (m : Mm) (ls : List Nat) : (m.zeros ls).c = m.c := by
  induction ls generalizing m with
  | nil => rfl
  | cons l ls ih => exact (ih (m.put l 0 0)).trans rfl
def lnN {c : Cfg} {g : Int} (l : List (Ln c g)) : List Nat := l.map fun x => x.1.toNat

theorem Lims.keepR {w w' : World} {lo hi : Nat} (h : Lims w) (hr : Rg lo hi w w') (hl : 1 < lo) : Lims w' := by
  obtain ⟨t, fr, h0⟩ := h
  exact ⟨t, fr, (hr.block _ (lt_of h0) (.inl hl)).trans h0⟩
theorem bscrub_nil (x : Int) (w : World) : Calls Tryd.prog 79 #[.pointer none, .int .i64 x] w fun e w' => e = .returned (.int .i64 2) ∧ Below w.heap.size w w' := by
  go_enter Tryd.func79, Tryd.ntmps79
  go_wp2_with fail
  refine bodyPost_ret (v := .int .i64 2) (by simp [results, Tryd.f79, go_sem]) rfl ?_
  exact ⟨rfl, (by repeat (with_reducible first | exact Below.refl _ _ | assumption | (refine ext_next (by assumption) ?_) | apply ext_alloc | apply ext_past | apply ext_drew | apply ext_drewN))⟩
set_option maxHeartbeats 1000000 in
theorem bscrub_no {w : World} {lo hi p : Nat} {m : Mm} (h : Bm w lo hi p m) (g : Int) (hg : g < 0 ∨ m.c.gr ≤ g) :
    Calls Tryd.prog 79 #[.pointer (some ⟨p, 0, none⟩), .int .i64 g] w fun e w' => e = .returned (.int .i64 10) ∧ Below w.heap.size w w' := by
  obtain ⟨q, R, h⟩ := h
  obtain ⟨cp, k0, k1, k2, k3, k4, k5, k6, k7, hcp⟩ := h.tops
  obtain ⟨hp, hq⟩ := h.lt
  clear h
  by_cases h0 : g < 0
  · have e0 : decide (g < 0) = true := by simpa using h0
    go_enter Tryd.func79, Tryd.ntmps79
    go_wp2_with fail
    refine bodyPost_ret (v := .int .i64 10) (by simp [results, Tryd.f79, go_sem]) rfl ?_
    exact ⟨rfl, (by repeat (with_reducible first | exact Below.refl _ _ | assumption | (refine ext_next (by assumption) ?_) | apply ext_alloc | apply ext_past | apply ext_drew | apply ext_drewN))⟩
  · have e0 : decide (g < 0) = false := by simpa using h0
    have e1 : decide (g ≥ m.c.gr) = true := by simp; omega
    go_enter Tryd.func79, Tryd.ntmps79
    go_wp2_with fail
    refine bodyPost_ret (v := .int .i64 10) (by simp [results, Tryd.f79, go_sem]) rfl ?_
    exact ⟨rfl, (by repeat (with_reducible first | exact Below.refl _ _ | assumption | (refine ext_next (by assumption) ?_) | apply ext_alloc | apply ext_past | apply ext_drew | apply ext_drewN))⟩

set_option maxRecDepth 100000 in
set_option maxHeartbeats 4000000 in
theorem bscrub_ok {w : World} {lo hi p : Nat} {m : Mm} (h : Bm w lo hi p m) (hL : Lims w) (g : Int) (h0 : 0 ≤ g) (hg : g < m.c.gr) :
    Calls Tryd.prog 79 #[.pointer (some ⟨p, 0, none⟩), .int .i64 g] w fun e w' => e = .returned (.int .i64 0) ∧ Bm w' lo hi p (m.zeros (lnN (lns m.c g))) ∧ Rg lo hi w w' := by
  refine (callsIn_wide (n := 6)).1 ?_
  have hro : Fence.wide.round = none := rfl
  refine callsIn_of_wp_marks Tryd.func79 rfl trivial ?_ hro
  simp only [Tryd.ntmps79, List.size_toArray, List.length_cons, List.length_nil, Nat.reduceAdd, Nat.reduceSub, Array.replicate_succ, Array.replicate_zero, List.push_toArray, List.append_toArray, List.nil_append, List.cons_append]
  have HL := Lib.hid hL
  have HB := Lib.hid h
  have HS := Lib.hid h.sz
  have hps : p < w.heap.size := by have := h.sz; omega
  obtain ⟨q, R, hk⟩ := h
  obtain ⟨cp, k0, k1, k2, k3, k4, k5, k6, k7, hcp⟩ := hk.tops
  have e0 : decide (g < 0) = false := by simp; omega
  have e1 : decide (g ≥ m.c.gr) = false := by simp; omega
  clear hL h0 hg hk
  gi_wp2_with fail
  refine ⟨trivial, (callsIn_wide.2 (linesof_any m.c g _)).mono ?_⟩
  rintro e w1 ⟨rfl, hw⟩
  subst hw
  clear k0 k1 k2 k3 k4 k5 k6 k7 e0 e1
  gi_wp2_with fail
  obtain ⟨W0, hW0⟩ : ∃ W0, W0 = (((w.alloc (.cells #[.pointer (some ⟨p, 0, none⟩)] 114)).alloc (.cells #[.int .i64 0] 25)).alloc (.cells #[.int .i64 m.c.co, .int .i64 m.c.gr, .int .i64 m.c.se, .int .i64 m.c.wa, .int .i64 m.c.de, .int .i64 m.c.en, .int .i64 m.c.ba] 65)).alloc (.cells #[.int .i64 g] 3) := ⟨_, rfl⟩
  have hb0 : Below w.heap.size w W0 := by rw [hW0]; exact (by repeat (with_reducible first | exact Below.refl _ _ | assumption | (refine ext_next (by assumption) ?_) | apply ext_alloc | apply ext_past | apply ext_drew | apply ext_drewN))
  have hm0 : W0.heap[w.heap.size]? = some (.cells #[.pointer (some ⟨p, 0, none⟩)] 114 (0, 0)) := by rw [hW0]; exact alOld (alOld (alOld (alNew (by simp))))
  have he0 : W0.heap[w.heap.size + 1]? = some (.cells #[.int .i64 0] 25 (0, 0)) := by rw [hW0]; exact alOld (alOld (alNew (by simp)))
  have hx0 : W0.heap[w.heap.size + 1 + 1]? = some (.cells #[.int .i64 m.c.co, .int .i64 m.c.gr, .int .i64 m.c.se, .int .i64 m.c.wa, .int .i64 m.c.de, .int .i64 m.c.en, .int .i64 m.c.ba] 65 (0, 0)) := by rw [hW0]; exact alOld (alNew (by simp))
  have hg0 : W0.heap[w.heap.size + 1 + 1 + 1]? = some (.cells #[.int .i64 g] 3 (0, 0)) := by rw [hW0]; exact alNew (by simp)
  have hs0 := lt_of hg0
  rw [← hW0]
  clear hW0
  refine wpIn_rangeFunc_var [(5, 0)] hro (by omega) (gf := 94) (lb := #[.pointer (some ⟨w.heap.size + 1 + 1, 0, none⟩), .pointer (some ⟨w.heap.size + 1 + 1 + 1, 0, none⟩)]) rfl trivial (enters_of Tryd.func94 (by kernel_rfl) rfl)
    (linesOf_stops (6 - 1) (by omega) m.c g (w.heap.size + 1 + 1) W0 (HL.out.ext hb0) hs0 hx0 hg0) (fun h k => h.trans k) (fun _ => ⟨rfl, rfl⟩) (fun W l o o' hl ho hc hw => ?kp) (Below.refl _ _) (fun _ => rfl)
    (fun pre W => (W.heap[w.heap.size]? = some (.cells #[.pointer (some ⟨p, 0, none⟩)] 114 (0, 0)) ∧ W.heap[w.heap.size + 1]? = some (.cells #[.int .i64 0] 25 (0, 0)) ∧ Bm W lo hi p (m.zeros (lnN pre))) ∧ Rg lo hi W0 W)
    (fun _ _ _ => False)
    (OwnFrom.and (Own.from (fun s A B row hs hg hr => ⟨blk_held hs.1 hg hr, blk_held hs.2.1 hg hr, hs.2.2.hold hg hr⟩) _) (ownFrom_rg (Nat.le_refl _)))
    (fun cc _ _ _ _ h _ _ => h)
    ⟨⟨hm0, he0, HB.out.ext hb0⟩, Rg.refl _ _ _⟩ ?assign ?body ?done ?stop
  case kp => exact ⟨World.putObj_heap_other (by omega), World.putObj_heap_other (by omega)⟩
  case assign =>
    intro l y W K hK
    unfold varFrame at hK
    simp at hK
    gi_wp2
    exact hK
  case body =>
    rintro l pre x W hl hr ⟨⟨hm, he, hbm⟩, hB⟩ hlen
    obtain ⟨hh, hx1⟩ := x.2
    have hxn : x.1 = ((x.1.toNat : Nat) : Int) := by have := hh.2.1; omega
    have hln : x.1.toNat < (m.zeros (lnN pre)).n := by
      have h1 := lin_ok hh.1
      have h2 := hh.2
      unfold Mm.n
      rw [Mm.zeros_c]
      omega
    have hLW : Lims W := (HL.out.ext hb0).keepR hB HB.out.gl
    have HW := bwrite_ok hbm hLW x.1.toNat hln 0 0
    rw [← hxn] at HW
    have HW := Lib.hid HW
    have HM := Lib.hid hm
    have HE := Lib.hid he
    have HX := Lib.hid hB
    have km := cell_of hm
    have kl := lt_of hm
    clear hm he hbm hB hh hx1 hxn hln hLW hr hm0 he0 hx0 hg0 hlen
    unfold varFrame
    gi_wp2_with fail
    refine ⟨trivial, (CallsIn.inRound l (callsIn_wide.2 HW.out)).mono ?_⟩
    rintro e w3 ⟨rfl, hbm, hrg⟩
    have hm3 := HM.out
    have he3 := HE.out
    gi_wp2_with fail
    have hle : hi ≤ w.heap.size := HS.out.1
    have hsz := HX.out.size
    exact ⟨hrg.from (by omega), ⟨hrg.block _ (by omega) (.inr (by omega)), hrg.block _ (by omega) (.inr (by omega))⟩, ⟨(hrg.block _ kl (.inr hle)).trans HM.out, (hrg.block _ (lt_of he3) (.inr (by omega))).trans HE.out, by rw [show lnN (pre ++ [x]) = lnN pre ++ [x.1.toNat] by simp [lnN], Mm.zeros_snoc]; exact hbm⟩, HX.out.trans hrg⟩
  case done =>
    rintro D ys W hD rfl ⟨⟨hm, he, hbm⟩, hB⟩ hK
    have ke := cell_of he
    have kf := free_of he
    have kl := lt_of he
    have HBM := Lib.hid hbm
    clear hm hbm hm0 he0 hx0 hg0
    gi_wp2_with fail
    have hK2 : (W.setCell ⟨w.heap.size + 1, 0, none⟩ (.int .i64 0)).heap[D]? = some (.deferred (some [])) := (Below.heap_setCell _ _ _ _ (by show D ≠ w.heap.size + 1; omega)).trans hK
    refine ⟨by simp, .inl ⟨_, _, rfl, run_takeDeferred hK2, ?_⟩⟩
    refine ⟨.int .i64 0, ?_, rfl, ?_⟩
    · have hh : ((W.setCell ⟨w.heap.size + 1, 0, none⟩ (.int .i64 0)).putObj D (.deferred none)).heap[w.heap.size + 1]? = some (.cells #[.int .i64 0] 25 (0, 0)) := (World.putObj_heap_other (by omega)).trans (set_of he)
      simp [results, Tryd.f79, go_sem, cell_of hh]
    · have hle : hi ≤ w.heap.size := HS.out.1
      have hr2 : Rg w.heap.size (D + 1) W ((W.setCell ⟨w.heap.size + 1, 0, none⟩ (.int .i64 0)).putObj D (.deferred none)) :=
        (Rg.set W _ (by omega) (by omega)).trans ⟨rfl, rfl, rfl, by simp, fun k _ hn => World.putObj_heap_other (by omega)⟩
      refine ⟨HBM.out.rg hr2 (.inl hle), ?_⟩
      have hr3 := (Rg.of_below (lo := lo) (hi := hi) hb0).trans hB
      exact ⟨hr3.os, hr3.tape, hr3.output, by simpa using hr3.size, fun k hk hn => (hr2.block k (by have := hr3.size; omega) (.inl hk)).trans (hr3.block k hk hn)⟩
  case stop => exact fun _ _ _ _ _ _ h _ => h.elim

end Go.Proofs.YtkobeajbiendlaaDoor
namespace Go.Proofs.YtkobeajbiendlaaDoor
open Go.RowKit

theorem cfg_at {W : World} {B : Nat} {c : Cfg} {t : TypeId} {fr : Nat × Nat} (h : W.heap[B]? = some (.cells #[.int .i64 c.co, .int .i64 c.gr, .int .i64 c.se, .int .i64 c.wa, .int .i64 c.de, .int .i64 c.en, .int .i64 c.ba] t fr)) :
    W.cell? ⟨B, 0, none⟩ = some (.int .i64 c.co) ∧ W.cell? ⟨B, 1, none⟩ = some (.int .i64 c.gr) ∧ W.cell? ⟨B, 2, none⟩ = some (.int .i64 c.se) ∧ W.cell? ⟨B, 3, none⟩ = some (.int .i64 c.wa) ∧
    W.cell? ⟨B, 4, none⟩ = some (.int .i64 c.de) ∧ W.cell? ⟨B, 5, none⟩ = some (.int .i64 c.en) ∧ W.cell? ⟨B, 6, none⟩ = some (.int .i64 c.ba) := by
  simp [World.cell?, h]
theorem info_bank : (Tryd.prog.info? 157).map (fun i => (i.zero, i.size, i.bytes)) = some (some (.agg #[.int .i64 0, .int .i64 0, .slice none 0 0]), 3, 40) := by kernel_rfl
/-- A memory in which all words are 0. -/
def Mm.zero (c : Cfg) : Mm := ⟨c, fun _ => 0, fun _ => 0, fun _ => 0⟩
theorem mk_bank (c : Cfg) (h1 : 1 ≤ c.ba) (h4 : c.ba ≤ 4) (w : World) : (Instr.makeSlice 149 (.int .i64 c.ba) (.int .i64 c.ba)).run Tryd.prog w =
    .ok (.slice (some ⟨w.heap.size, 0, none⟩) (Mm.zero c).nb (Mm.zero c).nb) (w.alloc (.cells (tab ((Mm.zero c).nb * 3) (bankV (Mm.zero c) fun _ => .slice none 0 0)).toArray 157)) := by
  obtain ⟨i0, hi, hz0, hz1, hz2⟩ := info_parts info_bank
  rw [run_make (P := Tryd.prog) w 149 157 i0 _ Tryd.underlying149 hi hz0 .i64 .i64 c.ba c.ba (by omega) (Int.le_refl _) (by rw [hz2]; omega) (by omega), hz1]
  have e : madeCells (Value.agg #[.int .i64 0, .int .i64 0, .slice none 0 0]).cells (c.ba.toNat * 3) = (tab ((Mm.zero c).nb * 3) (bankV (Mm.zero c) fun _ => .slice none 0 0)).toArray := by
    have h0 : (Value.agg #[.int .i64 0, .int .i64 0, .slice none 0 0]).cells = #[.int .i64 0, .int .i64 0, .slice none 0 0] := rfl
    rw [h0]
    apply Array.toList_inj.1
    unfold madeCells tab Mm.zero Mm.nb
    simp only [Array.toList_map, Array.toList_range]
    apply List.map_congr_left
    intro k _
    have hk : k % 3 = 0 ∨ k % 3 = 1 ∨ k % 3 = 2 := by omega
    rcases hk with h | h | h <;> simp [bankV, h]
  rw [e]
  rfl
theorem bnew_no (c : Cfg) (w : World) (hL : Lims w) (hc : ¬ c.ok) : Calls Tryd.prog 76 #[.agg #[.int .i64 c.co, .int .i64 c.gr, .int .i64 c.se, .int .i64 c.wa, .int .i64 c.de, .int .i64 c.en, .int .i64 c.ba]] w fun e w' => e = .returned (.tuple #[.pointer none, .int .i64 10]) ∧ Below w.heap.size w w' := by
  have h0 := hL.lt
  have hch := chk_no hc
  have HL := Lib.hid hL
  clear hc hL
  go_enter Tryd.func76, Tryd.ntmps76
  go_wp2_with fail
  refine (check_any c _ (HL.out.ext (ext_alloc _ (Below.refl _ _)))).mono ?_
  rintro e w1 ⟨rfl, hb⟩
  go_wp2_with fail
  go_ret2
  exact ⟨rfl, ext_trans (ext_alloc _ (Below.refl _ _)) hb⟩

/-- A memory that is being made: its first k lines. -/
structure Nw (w wr : World) (k p q : Nat) (R : Nat → Value) (c : Cfg) : Prop where
  bk : Bk wr (w.heap.size + 1) wr.heap.size k p q R (Mm.zero c)
  box : ∃ fr, wr.heap[w.heap.size]? = some (.cells #[.int .i64 c.co, .int .i64 c.gr, .int .i64 c.se, .int .i64 c.wa, .int .i64 c.de, .int .i64 c.en, .int .i64 c.ba] 65 fr)
  be : Below w.heap.size w wr
theorem Bk.grow {w w' : World} {lo hi hi' n p q : Nat} {R : Nat → Value} {m : Mm} (h : Bk w lo hi n p q R m) (hb : Below w.heap.size w w') (h1 : hi ≤ hi') (h2 : hi' ≤ w'.heap.size) : Bk w' lo hi' n p q R m := by
  have k := h.ext hb
  obtain ⟨d1, d2, d3, d4, d5⟩ := k.bd
  exact ⟨k.ok, k.top, k.ln, fun i hi2 b hbb => ⟨Nat.lt_of_lt_of_le (k.up i hi2 b hbb).1 h1, (k.up i hi2 b hbb).2⟩, ⟨d1, by omega, d3, by omega, d5⟩, h2, k.gl⟩
theorem Nw.ext {w a b : World} {k p q : Nat} {R : Nat → Value} {c : Cfg} (h : Nw w a k p q R c) (hb : Below a.heap.size a b) : Nw w b k p q R c := by
  obtain ⟨fr, hx⟩ := h.box
  exact ⟨h.bk.grow hb hb.size (Nat.le_refl _), ⟨fr, (hb.block _ (lt_of hx)).trans hx⟩, ext_trans h.be hb⟩
theorem nw_zero (c : Cfg) (w w1 : World) (hc : c.ok) (hb : Below w.heap.size w w1) (hx : w1.heap[w.heap.size]? = some (.cells #[.int .i64 c.co, .int .i64 c.gr, .int .i64 c.se, .int .i64 c.wa, .int .i64 c.de, .int .i64 c.en, .int .i64 c.ba] 65 (0, 0))) (hL : Lims w) :
    Nw w ((w1.alloc (.cells (tab ((Mm.zero c).nb * 3) (bankV (Mm.zero c) fun _ => .slice none 0 0)).toArray 157)).alloc (.cells #[.int .i64 c.co, .int .i64 c.gr, .int .i64 c.se, .int .i64 c.wa, .int .i64 c.de, .int .i64 c.en, .int .i64 c.ba, .slice (some ⟨w1.heap.size, 0, none⟩) (Mm.zero c).nb (Mm.zero c).nb] 151)) 0 (w1.heap.size + 1) w1.heap.size (fun _ => .slice none 0 0) c := by
  have hl := lt_of hx
  have hsz := hb.size
  obtain ⟨n1, n4, _⟩ := Mm.nb_of (m := Mm.zero c) hc
  refine ⟨⟨hc, ⟨(Mm.zero c).nb, alNew (by simp), by simp, .inr ⟨w1.heap.size, (Mm.zero c).nb, _, rfl, by omega, alOld (alNew rfl), Nat.le_refl _, by unfold maxLen; omega, by simp, List.take_of_length_le (by simp)⟩⟩, fun i hi => ?_, fun i hi b hbb => (by cases hbb), ⟨by omega, by simp, by omega, by simp; omega, by omega⟩, Nat.le_refl _, by have := hL.lt; omega⟩, ⟨_, alOld (alOld hx)⟩, ?_⟩
  · rw [cnt_zero n1]
    exact World.ownsRow_nil _ _ _ _
  · exact (hb.alloc hsz _).alloc (by simp; omega) _
theorem info_line : (Tryd.prog.info? 159).map (fun i => (i.zero, i.size, i.bytes)) = some (some (.agg #[.int .i64 0, .int .i64 0]), 2, 16) := by kernel_rfl
theorem lt_own {w : World} {base e size n b : Nat} {v : Value} {xs : List Value} (h : w.ownsRow base e size v n xs) (hb : v.ownBlock = some b) : b < w.heap.size := by
  rcases h.2 with ⟨rfl, _⟩ | ⟨g, cap, cur, rfl, _, hg, _⟩
  · cases hb
  · obtain rfl := Option.some.inj hb; exact lt_of hg
theorem two_at {W : World} {b : Nat} {x y : Value} {t : TypeId} {fr : Nat × Nat} (h : W.heap[b]? = some (.cells #[x, y] t fr)) : ∀ ad, some (⟨b, 0, none⟩ : Addr) = some ad → ∀ j u, [x, y][j]? = some u → W.cell? (ad.add j) = some u := by
  intro ad he j u hu
  obtain rfl := Option.some.inj he
  rw [Addr.add_lit, Nat.zero_add]
  simp only [World.cell?, h]
  simpa using hu
theorem lineV_zero (nb i k : Nat) : lineV (fun _ => 0) nb i k = .int .i64 0 := rfl
/-- One line more. -/
theorem nw_next {w w2 w3 : World} {k p q i : Nat} {R : Nat → Value} {c : Cfg} (h : Nw w w2 k p q R c) (hi : i = k % (Mm.zero c).nb) {v' : Value}
    (ho : w3.ownsRow (w.heap.size + 1) 159 2 v' (cntB (Mm.zero c).nb k i + 1) (tab (cntB (Mm.zero c).nb k i * 2) (lineV (Mm.zero c).wd (Mm.zero c).nb i) ++ [.int .i64 0, .int .i64 0]))
    (hg : w2.grownBy w3 (R i).ownBlock) (hf : ∀ g, v'.ownBlock = some g → (R i).ownBlock = some g ∨ w2.heap.size ≤ g) :
    Nw w (w3.setCell ⟨q, i * 3 + 2, none⟩ v') (k + 1) p q (updN R i v') c := by
  obtain ⟨n1, n4, _⟩ := Mm.nb_of h.bk.ok
  have hiN : i < (Mm.zero c).nb := by rw [hi]; exact Nat.mod_lt _ n1
  obtain ⟨hp, hq⟩ := h.bk.lt
  obtain ⟨d1, d2, d3, d4, d5⟩ := h.bk.bd
  have hsz := hg.size
  obtain ⟨c1, c2⟩ := cnt_succ (nb := (Mm.zero c).nb) (n := k) n1 n4
  rw [← hi] at c1 c2
  have own : ∀ g, (R i).ownBlock = some g → g ≠ p ∧ g ≠ q ∧ w.heap.size + 1 ≤ g ∧ g < w2.heap.size := fun g hgg =>
    ⟨(h.bk.up i hiN g hgg).2.1, (h.bk.up i hiN g hgg).2.2.1, own_ge (h.bk.ln i hiN) hgg, (h.bk.up i hiN g hgg).1⟩
  have keep : ∀ g, g < w2.heap.size → (R i).ownBlock ≠ some g → g ≠ q → (w3.setCell ⟨q, i * 3 + 2, none⟩ v').heap[g]? = w2.heap[g]? := fun g h1 h2 h3 =>
    (Below.heap_setCell _ _ _ _ h3).trans (hg.block g h1 (fun e => h2 e.symm))
  have new : ∀ g, v'.ownBlock = some g → g ≠ p ∧ g ≠ q := fun g hgg => by
    rcases hf g hgg with h1 | h1
    · exact ⟨(own g h1).1, (own g h1).2.1⟩
    · exact ⟨by omega, by omega⟩
  have hlv : ∀ g, v'.ownBlock = some g → g < w3.heap.size := fun g hgg => by
    rcases ho.2 with ⟨h0, _⟩ | ⟨b, _, _, h1, _, h3, _⟩
    · rw [h0] at hgg; cases hgg
    · rw [h1] at hgg
      obtain rfl := Option.some.inj hgg
      exact lt_of h3
  obtain ⟨fr, hbx⟩ := h.box
  refine ⟨⟨h.bk.ok, ?_, fun j hj => ?_, fun j hj g hgg => ?_, ⟨d1, by simp; omega, d3, by simp; omega, d5⟩, Nat.le_refl _, h.bk.gl⟩, ⟨fr, ?_⟩, ?_⟩
  · obtain ⟨cp, t1, t2⟩ := h.bk.top
    refine ⟨cp, (keep p hp (fun e => (own p e).1 rfl) d5).trans t1, ?_⟩
    have t3 : w3.ownsRow (w.heap.size + 1) 157 3 (.slice (some ⟨q, 0, none⟩) (Mm.zero c).nb cp) (Mm.zero c).nb (tab ((Mm.zero c).nb * 3) (bankV (Mm.zero c) R)) :=
      row_keep t2 fun g hgg => by
        obtain rfl := Option.some.inj hgg
        exact hg.block _ hq (fun e => (own _ e.symm).2.1 rfl)
    have e2 : (i * 3 + 2) / 3 = i := by omega
    have := own_set t3 (i * 3 + 2) v'
    rw [tab_set (g := bankV (Mm.zero c) (updN R i v')) (by simp [bankV, e2]) fun x _ hne => ?_] at this
    · exact this
    simp only [bankV]
    by_cases h0 : x % 3 = 0
    · rw [if_pos h0, if_pos h0]
    · rw [if_neg h0, if_neg h0]
      by_cases h1 : x % 3 = 1
      · rw [if_pos h1, if_pos h1]
      · rw [if_neg h1, if_neg h1, updN_ne _ _ (by omega)]
  · by_cases hji : j = i
    · subst hji
      rw [updN_same, c1]
      have e : tab (cntB (Mm.zero c).nb k j * 2) (lineV (Mm.zero c).wd (Mm.zero c).nb j) ++ [.int .i64 0, .int .i64 0] = tab ((cntB (Mm.zero c).nb k j + 1) * 2) (lineV (Mm.zero c).wd (Mm.zero c).nb j) := by
        rw [Nat.add_mul, Nat.one_mul, tab_two]
        rfl
      rw [e] at ho
      exact row_keep ho fun g hgg => Below.heap_setCell _ _ _ _ (new g hgg).2
    · rw [updN_ne _ _ hji, cnt_other n1 n4 hj (by rw [← hi]; exact hji)]
      exact row_keep (h.bk.ln j hj) fun g hgg => keep g (h.bk.up j hj g hgg).1 (fun e => (h.bk.up i hiN g e).2.2.2 j hj hji hgg) (h.bk.up j hj g hgg).2.2.1
  · by_cases hji : j = i
    · subst hji
      rw [updN_same] at hgg
      refine ⟨by simpa using hlv g hgg, (new g hgg).1, (new g hgg).2, fun x hx hxj => ?_⟩
      rw [updN_ne _ _ hxj]
      rcases hf g hgg with h1 | h1
      · exact (h.bk.up j hj g h1).2.2.2 x hx hxj
      · intro e
        have := (h.bk.up x hx g e).1
        omega
    · rw [updN_ne _ _ hji] at hgg
      obtain ⟨u1, u2, u3, u4⟩ := h.bk.up j hj g hgg
      refine ⟨by simp; omega, u2, u3, fun x hx hxj => ?_⟩
      by_cases hxi : x = i
      · subst hxi
        rw [updN_same]
        intro e
        rcases hf g e with h1 | h1
        · exact (h.bk.up x hx g h1).2.2.2 j hj hji hgg
        · omega
      · rw [updN_ne _ _ hxi]
        exact u4 x hx hxj
  · have hbl := lt_of hbx
    exact (keep _ hbl (fun e => by have := (own _ e).2.2.1; omega) (by omega)).trans hbx
  · have hb := h.be
    refine ⟨hg.os.trans hb.os, hg.tape.trans hb.tape, hg.output.trans hb.output, by simp; have := hb.size; omega, fun x hx => ?_⟩
    have := hb.size
    exact (keep x (by omega) (fun e => by have := (own _ e).2.2.1; omega) (by omega)).trans (hb.block x hx)
set_option maxHeartbeats 1600000 in
theorem bnew_ok (c : Cfg) (w : World) (hL : Lims w) (hc : c.ok) : Calls Tryd.prog 76 #[.agg #[.int .i64 c.co, .int .i64 c.gr, .int .i64 c.se, .int .i64 c.wa, .int .i64 c.de, .int .i64 c.en, .int .i64 c.ba]] w fun e w' => ∃ p, e = .returned (.tuple #[.pointer (some ⟨p, 0, none⟩), .int .i64 0]) ∧ Bm w' (w.heap.size + 1) w'.heap.size p (Mm.zero c) ∧ Below w.heap.size w w' := by
  have h0 := hL.lt
  have hch := chk_ok hc
  obtain ⟨i0, hi0, hz0, hz1, hz2⟩ := info_parts info_line
  have HL := Lib.hid hL
  have HC := Lib.hid hc
  obtain ⟨_, _, _, _, _, _, b1, b4⟩ := hc
  clear hL
  go_enter Tryd.func76, Tryd.ntmps76
  go_wp2_with fail
  refine (check_any c _ (HL.out.ext (ext_alloc _ (Below.refl _ _)))).mono ?_
  rintro e w1 ⟨rfl, hb⟩
  have hc0 := (hb.block w.heap.size (by simp)).trans (alNew rfl)
  have HB1 := Lib.hid (ext_trans (ext_alloc _ (Below.refl _ _)) hb)
  have HC0 := Lib.hid hc0
  obtain ⟨k0, k1, k2, k3, k4, k5, k6⟩ := cfg_at hc0
  have hl1 := lt_of hc0
  clear hb hc0
  have hmk := mk_bank c b1 b4
  have hnb : Hid ((Mm.zero c).nb = c.ba.toNat) := Lib.hid rfl
  have HNW := Lib.hid ((nw_zero c w w1 HC.out HB1.out HC0.out HL.out).ext (ext_drew (Below.refl _ _)))
  have HN := Lib.hid (Mm.nb_of (m := Mm.zero c) HC.out)
  generalize hnn : (Mm.zero c).nb = N at *
  generalize (tab (N * 3) (bankV (Mm.zero c) fun _ => Value.slice none 0 0)).toArray = cs at *
  go_wp2_with fail
  go_region
  generalize hW2 : World.drew _ = W2 at HNW
  clear hW2
  obtain ⟨fr, hbx⟩ := HNW.out.box
  obtain ⟨k0, k1, k2, k3, k4, k5, k6⟩ := cfg_at hbx
  have hl2 := lt_of hbx
  clear hbx
  go_wp2_with fail
  refine (lines_any c _ (HL.out.ext HNW.out.be)).mono ?_
  rintro e w3 ⟨rfl, hb⟩
  have HNW := Lib.hid (HNW.out.ext hb)
  have hln := Mm.n_of (Mm.zero c)
  have hn32 := Mm.n_le (Mm.zero c)
  rw [show (Mm.zero c).c = c from rfl] at hln
  generalize hM : (Mm.zero c).n = M at *
  have HM := Lib.hid hM
  clear hM
  rw [← hln]
  have HLN := Lib.hid hln
  generalize w1.heap.size + 1 = p at *
  generalize w1.heap.size = q at *
  clear hb k0 k1 k2 k3 k4 k5 k6 hl1 hl2 hmk hln
  go_wp2_with fail
  go_loopg [21] M (fun g s21 wr => ∃ (k : Nat) (R : Nat → Value), s21 = .int .i64 k ∧ k + g = M ∧ Hid (Nw w wr k p q R c))
  case atStart => exact ⟨0, _, rfl, by omega, HNW⟩
  case round =>
    obtain ⟨k, R, rfl, hk, HR⟩ := hrel
    by_cases hlt : k < M
    · have ek : decide ((k : Int) < (M : Int)) = true := by simp; omega
      have em : (k : Int) % c.ba = ((k % N : Nat) : Int) := by have : (N : Int) = c.ba := HN.out.2.2; rw [← this]; omega
      have hiN : k % N < N := Nat.mod_lt _ HN.out.1
      obtain ⟨i, hi⟩ : ∃ i, i = k % N := ⟨_, rfl⟩
      have HI := Lib.hid hi
      rw [← hi] at em hiN
      obtain ⟨cp, _, _, _, _, _, _, _, k7, hcp⟩ := HR.out.bk.tops
      rw [hnn] at k7
      obtain ⟨fr, hbx⟩ := HR.out.box
      obtain ⟨_, _, _, _, _, _, k6⟩ := cfg_at hbx
      have hl2 := lt_of hbx
      obtain ⟨hp, hq⟩ := HR.out.bk.lt
      have hba0 : (c.ba == 0) = false := by rw [beq_eq_false_iff_ne]; omega
      have hk32 : (k : Int) ≤ 32 := by omega
      clear hbx hi
      go_wp2_with fail
      refine region_past (by kernel_rfl) (by kernel_rfl) ?_; (repeat (go_big_quiet_step (fail))); refine wpQuiet_nil ?_; rintro _ ⟨px, rfl⟩
      have HR1 := Lib.hid (HR.out.ext px.below)
      have hx2 := (HR1.out.bk.bank i (by rw [hnn]; exact hiN)).2.2
      have hfr := HR1.out.bk.free
      obtain ⟨hp, hq⟩ := HR1.out.bk.lt
      have hl3 : w.heap.size < px.val.heap.size := Nat.lt_of_lt_of_le hl2 px.below.size
      clear k6 k7 em hl2
      have hrow := HR1.out.bk.ln i (by rw [hnn]; exact hiN)
      obtain ⟨A, cc, hRi, hA⟩ := row_form hrow
      have hrow2 : px.val.ownsRow (w.heap.size + 1) 159 2 (.slice A (cntB N k i) cc) (cntB N k i) (tab (cntB N k i * 2) (lineV (Mm.zero c).wd N i)) := by have := hrow; rw [hRi, hnn] at this; exact this
      have hcl : cntB N k i ≤ 32 := by have := cnt_le (nb := N) (n := k) (i := i) HN.out.1; omega
      rw [hRi, hnn] at hx2
      have HRI := Lib.hid hRi
      have HROW := Lib.hid hrow2
      have hobq : (Value.slice A (cntB N k i) cc).ownBlock ≠ some q := fun e => by
        have := (HR1.out.bk.up i (by rw [hnn]; exact hiN) q (by rw [hRi, hnn]; exact e)).2.2.1
        exact this rfl
      clear hrow hrow2 hRi
      go_wp2_with (at_builtin; refine wpList_append_full _ rfl _ _ 155 rfl (w.heap.size + 1) 159 i0 (.agg #[.int .i64 0, .int .i64 0]) 2 16 Tryd.underlying155 hi0 hz0 hz1 hz2 rfl (by decide) (.slice A (cntB N k i) cc) (cntB N k i) (tab (cntB N k i * 2) (lineV (Mm.zero c).wd N i)) rfl (row_keep HROW.out (fun g hg => Below.heap_alloc _ _ _ (lt_own HROW.out hg))) (some ⟨px.val.heap.size, 0, none⟩) 1 1 [.int .i64 0, .int .i64 0] rfl (fun e => by cases e) rfl (two_at (alNew rfl)) (by simp [Value.oneCell']) ?c3 ?c4 ?c5 ?_)
      case c3 => unfold maxLen; omega
      case c4 => omega
      case c5 => have := HR1.out.be.size; have := hl3; simp; omega
      intro A3 c3 w3 h3 ho3 hg3 hf3
      have hq3 : w3.heap[q]? = px.val.heap[q]? := (hg3.block q (by simp; omega) (fun e => hobq e.symm)).trans (Below.heap_alloc _ _ _ hq)
      have hx3 : w3.cell? ⟨q, i * 3 + 2, none⟩ = some (.slice A (cntB N k i) cc) := by rw [← hx2]; unfold World.cell?; rw [hq3]
      have hf3q : w3.frozen? ⟨q, i * 3 + 2, none⟩ = false := by rw [← hfr (i * 3 + 2)]; unfold World.frozen?; rw [hq3]
      have hl3q : q < w3.heap.size := by have := hg3.size; simp at this; omega
      have HNX := Lib.hid (nw_next (k := k) (i := i) (w3 := w3) (R := R) (v' := .slice A3 (cntB N k i + 1) c3) (HR1.out.ext (ext_alloc (.cells #[.int .i64 0, .int .i64 0] 159) (Below.refl _ _))) (by rw [hnn]; exact HI.out) (by rw [hnn]; exact ho3) (by rw [HRI.out, hnn]; exact hg3) (by rw [HRI.out, hnn]; exact fun g hg => (hf3 g hg).imp id fun h => by simpa using h))
      clear h3 ho3 hg3 hf3 hq3 hx2 hobq
      generalize cntB N k i = cn at *
      go_wp2_with fail
      go_roundg (M - (k + 1))
      case measure => omega
      case rel => exact ⟨k + 1, _, by go_num, by omega, HNX⟩
    · have ek : decide ((k : Int) < (M : Int)) = false := by simp; omega
      obtain rfl : k = M := by omega
      have H := Lib.hid HR.out
      go_wp2_with fail
      go_ret2
      refine ⟨p, rfl, ⟨q, R, ?_⟩, H.out.be⟩
      rw [HM.out]
      exact H.out.bk

end Go.Proofs.YtkobeajbiendlaaDoor
namespace Go.Proofs.YtkobeajbiendlaaDoor
open Go.RowKit

theorem own_full {w : World} {base e size q n c : Nat} {xs : List Value} (h : w.ownsRow base e size (.slice (some ⟨q, 0, none⟩) n c) n xs) : ∀ j u, xs[j]? = some u → w.cell? ((⟨q, 0, none⟩ : Addr).add j) = some u := by
  intro j u hu
  rw [Addr.add_lit, Nat.zero_add]
  exact own_cell h hu
set_option maxHeartbeats 1000000 in
theorem clone_bank {base q n c : Nat} {xs : List Value} (w : World) (h : w.ownsRow base 157 3 (.slice (some ⟨q, 0, none⟩) n c) n xs) (h1 : ∀ u ∈ xs, u.oneCell' = true) (hn : n ≤ 1000) :
    Calls Tryd.prog 82 #[.slice (some ⟨q, 0, none⟩) n c] w fun e w' => ∃ v, e = .returned v ∧ w'.ownsRow w.heap.size 157 3 v n xs ∧ Below w.heap.size w w' := by
  obtain ⟨i0, hi, hz0, hz1, hz2⟩ := info_parts info_bank
  have H := Lib.hid h
  have H1 := Lib.hid h1
  have hlen := h.1
  clear h h1
  have hnil := fun wx => Lib.run_eql_slice_nil (P := Tryd.prog) wx 149 157 (some ⟨q, 0, none⟩) n c 0 0 Tryd.underlying149
  go_enter Tryd.func82, Tryd.ntmps82
  go_wp2_with (at_builtin; refine wpList_append_own _ rfl _ _ 149 rfl w.heap.size 157 i0 (.agg #[.int .i64 0, .int .i64 0, .slice none 0 0]) 3 40 Tryd.underlying149 hi hz0 hz1 hz2 rfl (by decide) _ _ _ rfl (World.ownsRow_made w #[] 0 (Nat.le_refl _) (Nat.zero_le _) rfl) ⟨q, 0, none⟩ n c xs rfl hlen ?c1 ?c2 ?c3 ?c4 ?c5 ?_)
  case c1 => exact own_full (row_keep H.out (fun g hg => Below.heap_alloc _ _ _ (lt_own H.out hg)))
  case c2 => exact H1.out
  case c3 => unfold maxLen; omega
  case c4 => omega
  case c5 => simp
  intro v' w1 hown hgrow _
  have HO : Hid (w1.ownsRow w.heap.size 157 3 v' n xs) := Lib.hid (by simpa using hown)
  have HB : Hid (Below w.heap.size w w1) := Lib.hid (((Below.refl w.heap.size w).alloc (Nat.le_refl _) (.cells #[] 157)).grown hgrow (by simp) (fun k hk => by simp [Value.ownBlock] at hk; omega))
  clear hown hgrow hnil
  go_wp2_with fail
  go_ret
  exact ⟨_, rfl, HO.out, HB.out⟩
set_option maxHeartbeats 1000000 in
theorem clone_line {base n : Nat} {v : Value} {xs : List Value} (w : World) (h : w.ownsRow base 159 2 v n xs) (h1 : ∀ u ∈ xs, u.oneCell' = true) (hn : n ≤ 1000) :
    Calls Tryd.prog 83 #[v] w fun e w' => ∃ v', e = .returned v' ∧ w'.ownsRow w.heap.size 159 2 v' n xs ∧ Below w.heap.size w w' := by
  obtain ⟨i0, hi, hz0, hz1, hz2⟩ := info_parts info_line
  rcases h.2 with ⟨rfl, h0⟩ | ⟨q, c, cur, rfl, _⟩
  · have hx := h.1
    subst h0
    obtain rfl := List.eq_nil_of_length_eq_zero (by simpa using hx)
    clear h h1
    have hnil := fun wx => Lib.run_eql_slice_nil (P := Tryd.prog) wx 155 159 none 0 0 0 0 Tryd.underlying155
    go_enter Tryd.func83, Tryd.ntmps83
    go_wp2_with fail
    go_ret
    exact ⟨_, rfl, World.ownsRow_nil _ _ _ _, Below.refl _ _⟩
  · have H := Lib.hid h
    have H1 := Lib.hid h1
    have hlen := h.1
    clear h h1
    have hnil := fun wx => Lib.run_eql_slice_nil (P := Tryd.prog) wx 155 159 (some ⟨q, 0, none⟩) n c 0 0 Tryd.underlying155
    go_enter Tryd.func83, Tryd.ntmps83
    go_wp2_with (at_builtin; refine wpList_append_own _ rfl _ _ 155 rfl w.heap.size 159 i0 (.agg #[.int .i64 0, .int .i64 0]) 2 16 Tryd.underlying155 hi hz0 hz1 hz2 rfl (by decide) _ _ _ rfl (World.ownsRow_made w #[] 0 (Nat.le_refl _) (Nat.zero_le _) rfl) ⟨q, 0, none⟩ n c xs rfl hlen ?c1 ?c2 ?c3 ?c4 ?c5 ?_)
    case c1 => exact own_full (row_keep H.out (fun g hg => Below.heap_alloc _ _ _ (lt_own H.out hg)))
    case c2 => exact H1.out
    case c3 => unfold maxLen; omega
    case c4 => omega
    case c5 => simp
    intro v' w1 hown hgrow _
    have HO : Hid (w1.ownsRow w.heap.size 159 2 v' n xs) := Lib.hid (by simpa using hown)
    have HB : Hid (Below w.heap.size w w1) := Lib.hid (((Below.refl w.heap.size w).alloc (Nat.le_refl _) (.cells #[] 159)).grown hgrow (by simp) (fun k hk => by simp [Value.ownBlock] at hk; omega))
    clear hown hgrow hnil
    go_wp2_with fail
    go_ret
    exact ⟨_, rfl, HO.out, HB.out⟩

theorem tab_one {n : Nat} {h : Nat → Value} (e : ∀ k, k < n → (h k).oneCell' = true) : ∀ u ∈ tab n h, u.oneCell' = true := by
  intro u hu
  simp only [tab, List.mem_map, List.mem_range] at hu
  obtain ⟨k, hk, rfl⟩ := hu
  exact e k hk
theorem bank_one {w : World} {lo hi n p q : Nat} {R : Nat → Value} {m : Mm} (h : Bk w lo hi n p q R m) : ∀ u ∈ tab (m.nb * 3) (bankV m R), u.oneCell' = true := tab_one fun k hk => by
  unfold bankV
  split
  · rfl
  · split
    · rfl
    · obtain ⟨A, c, e, _⟩ := row_form (h.ln (k / 3) (by omega))
      rw [e]
      rfl
/-- A copy that is being made: the rows of the first i banks are its own. -/
structure Cp (w wr : World) (i lo hi p q p' q' cp : Nat) (R R' : Nat → Value) (m : Mm) : Prop where
  src : Bk wr lo hi m.n p q R m
  top : wr.heap[p']? = some (.cells #[.int .i64 m.c.co, .int .i64 m.c.gr, .int .i64 m.c.se, .int .i64 m.c.wa, .int .i64 m.c.de, .int .i64 m.c.en, .int .i64 m.c.ba, .slice (some ⟨q', 0, none⟩) m.nb cp] 151 (0, 0))
  row : wr.ownsRow w.heap.size 157 3 (.slice (some ⟨q', 0, none⟩) m.nb cp) m.nb (tab (m.nb * 3) (bankV m R'))
  old : ∀ j, i ≤ j → j < m.nb → R' j = R j
  new : ∀ j, j < i → j < m.nb → wr.ownsRow w.heap.size 159 2 (R' j) (cntB m.nb m.n j) (tab (cntB m.nb m.n j * 2) (lineV m.wd m.nb j))
  ap : ∀ j, j < i → j < m.nb → ∀ b, (R' j).ownBlock = some b → b ≠ p' ∧ b ≠ q' ∧ ∀ x, x < i → x < m.nb → x ≠ j → (R' x).ownBlock ≠ some b
  bd : w.heap.size ≤ p' ∧ w.heap.size ≤ q' ∧ p' ≠ q' ∧ p' < wr.heap.size ∧ q' < wr.heap.size
  hi' : hi ≤ w.heap.size
  be : Below w.heap.size w wr
/-- One bank more. -/
theorem cp_next {w a b : World} {i lo hi p q p' q' cp : Nat} {R R' : Nat → Value} {m : Mm} (h : Cp w a i lo hi p q p' q' cp R R' m) (hi2 : i < m.nb) (hb : Below a.heap.size a b) {v : Value}
    (ho : b.ownsRow a.heap.size 159 2 v (cntB m.nb m.n i) (tab (cntB m.nb m.n i * 2) (lineV m.wd m.nb i))) :
    Cp w (b.setCell ⟨q', i * 3 + 2, none⟩ v) (i + 1) lo hi p q p' q' cp R (updN R' i v) m := by
  obtain ⟨d1, d2, d3, d4, d5⟩ := h.bd
  have hsz := hb.size
  have hwa := h.be.size
  have keep : ∀ g, g < a.heap.size → g ≠ q' → (b.setCell ⟨q', i * 3 + 2, none⟩ v).heap[g]? = a.heap[g]? := fun g h1 h3 => (Below.heap_setCell _ _ _ _ h3).trans (hb.block g h1)
  have ge : ∀ g, v.ownBlock = some g → a.heap.size ≤ g := fun g hg => own_ge ho hg
  refine ⟨h.src.keep (fun k _ hk => keep k (by have := h.hi'; omega) (by have := h.hi'; omega)) (by simpa using hsz), (keep p' d4 d3).trans h.top, ?_, fun j h1 h2 => ?_, fun j h1 h2 => ?_, fun j h1 h2 g hg => ?_, ⟨d1, d2, d3, by simp; omega, by simp; omega⟩, h.hi', ?_⟩
  · have t3 := row_keep (w' := b) h.row fun g hgg => by
      obtain rfl := Option.some.inj hgg
      exact hb.block _ d5
    have e2 : (i * 3 + 2) / 3 = i := by omega
    have := own_set t3 (i * 3 + 2) v
    rw [tab_set (g := bankV m (updN R' i v)) (by simp [bankV, e2]) fun x _ hne => ?_] at this
    · exact this
    simp only [bankV]
    by_cases h0 : x % 3 = 0
    · rw [if_pos h0, if_pos h0]
    · rw [if_neg h0, if_neg h0]
      by_cases h1 : x % 3 = 1
      · rw [if_pos h1, if_pos h1]
      · rw [if_neg h1, if_neg h1, updN_ne _ _ (by omega)]
  · rw [updN_ne _ _ (by omega)]
    exact h.old j (by omega) h2
  · by_cases hji : j = i
    · subst hji
      rw [updN_same]
      exact row_keep (row_mono ho hwa) fun g hgg => Below.heap_setCell _ _ _ _ (by have := ge g hgg; show g ≠ q'; omega)
    · rw [updN_ne _ _ hji]
      have hj := h.new j (by omega) h2
      exact row_keep hj fun g hgg => keep g (lt_own hj hgg) (h.ap j (by omega) h2 g hgg).2.1
  · by_cases hji : j = i
    · subst hji
      rw [updN_same] at hg
      have := ge g hg
      refine ⟨by omega, by omega, fun x h3 h4 h5 e => ?_⟩
      rw [updN_ne _ _ h5] at e
      have := lt_own (h.new x (by omega) h4) e
      omega
    · rw [updN_ne _ _ hji] at hg
      have hj := lt_own (h.new j (by omega) h2) hg
      obtain ⟨u1, u2, u3⟩ := h.ap j (by omega) h2 g hg
      refine ⟨u1, u2, fun x h3 h4 h5 => ?_⟩
      by_cases hxi : x = i
      · subst hxi
        rw [updN_same]
        intro e
        have := ge g e
        omega
      · rw [updN_ne _ _ hxi]
        exact u3 x (by omega) h4 h5
  · have hbe := ext_trans h.be hb
    exact ⟨hbe.os, hbe.tape, hbe.output, by simpa using hbe.size, fun k hk => (Below.heap_setCell _ _ _ _ (by show k ≠ q'; omega)).trans (hbe.block k hk)⟩
theorem cp_end {w wr : World} {lo hi p q p' q' cp : Nat} {R R' : Nat → Value} {m : Mm} (h : Cp w wr m.nb lo hi p q p' q' cp R R' m) : Bm wr w.heap.size wr.heap.size p' m := by
  obtain ⟨d1, d2, d3, d4, d5⟩ := h.bd
  refine ⟨q', R', h.src.ok, ⟨cp, h.top, h.row⟩, fun j hj => h.new j hj hj, fun j hj b hb => ?_, ⟨d1, d4, d2, d5, d3⟩, Nat.le_refl _, ?_⟩
  · obtain ⟨u1, u2, u3⟩ := h.ap j hj hj b hb
    exact ⟨lt_own (h.new j hj hj) hb, u1, u2, fun x hx hxj => u3 x hx hx hxj⟩
  · have := h.src.gl
    have := h.hi'
    obtain ⟨e1, e2, _⟩ := h.src.bd
    omega
theorem top_at {W : World} {B : Nat} {a b c d e f g h : Value} {t : TypeId} {fr : Nat × Nat} (hh : W.heap[B]? = some (.cells #[a, b, c, d, e, f, g, h] t fr)) :
    W.cell? ⟨B, 0, none⟩ = some a ∧ W.cell? ⟨B, 1, none⟩ = some b ∧ W.cell? ⟨B, 2, none⟩ = some c ∧ W.cell? ⟨B, 3, none⟩ = some d ∧ W.cell? ⟨B, 4, none⟩ = some e ∧ W.cell? ⟨B, 5, none⟩ = some f ∧ W.cell? ⟨B, 6, none⟩ = some g ∧ W.cell? ⟨B, 7, none⟩ = some h := by
  simp [World.cell?, hh]
theorem form_pos {w : World} {base e size n : Nat} {v : Value} {xs : List Value} (h : w.ownsRow base e size v n xs) (hn : 1 ≤ n) : ∃ g c, v = .slice (some ⟨g, 0, none⟩) n c := by
  rcases h.2 with ⟨_, h0⟩ | ⟨g, cap, _, hv, _⟩
  · omega
  · exact ⟨g, cap, hv⟩
theorem row_at {w : World} {base q c i : Nat} {m : Mm} {R : Nat → Value} (h : w.ownsRow base 157 3 (.slice (some ⟨q, 0, none⟩) m.nb c) m.nb (tab (m.nb * 3) (bankV m R))) (hi : i < m.nb) : w.cell? ⟨q, i * 3 + 2, none⟩ = some (R i) := by
  have e2 : (i * 3 + 2) / 3 = i := by omega
  refine own_cell h ?_
  rw [tab_at _ (by omega)]
  simp [bankV, e2]
theorem bcopy_nil (w : World) : Calls Tryd.prog 66 #[.pointer none] w fun e w' => e = .returned (.pointer none) ∧ w' = w := by
  go_enter Tryd.func66, Tryd.ntmps66
  go_wp2
  go_ret
  exact ⟨rfl, rfl⟩
theorem cp_zero {w w2 : World} {lo hi p q q' cp : Nat} {R : Nat → Value} {m : Mm} (h : Bk w lo hi m.n p q R m) (hb : Below w.heap.size w w2) (hq : w.heap.size ≤ q') (ho : w2.ownsRow w.heap.size 157 3 (.slice (some ⟨q', 0, none⟩) m.nb cp) m.nb (tab (m.nb * 3) (bankV m R))) :
    Cp w (w2.alloc (.cells #[.int .i64 m.c.co, .int .i64 m.c.gr, .int .i64 m.c.se, .int .i64 m.c.wa, .int .i64 m.c.de, .int .i64 m.c.en, .int .i64 m.c.ba, .slice (some ⟨q', 0, none⟩) m.nb cp] 151)) 0 lo hi p q w2.heap.size q' cp R R m := by
  have hq2 : q' < w2.heap.size := lt_own ho rfl
  have hsz := hb.size
  exact ⟨(h.ext hb).ext (ext_alloc _ (Below.refl _ _)), alNew rfl, row_keep ho (fun g hg => Below.heap_alloc _ _ _ (lt_own ho hg)), fun _ _ _ => rfl, fun j hj => absurd hj (by omega), fun j hj => absurd hj (by omega),
    ⟨hsz, hq, by omega, by simp, by simp; omega⟩, h.sz, hb.alloc hsz _⟩
theorem Cp.ext {w a b : World} {i lo hi p q p' q' cp : Nat} {R R' : Nat → Value} {m : Mm} (h : Cp w a i lo hi p q p' q' cp R R' m) (hb : Below a.heap.size a b) : Cp w b i lo hi p q p' q' cp R R' m := by
  obtain ⟨d1, d2, d3, d4, d5⟩ := h.bd
  have := hb.size
  exact ⟨h.src.ext hb, (hb.block _ d4).trans h.top, row_keep h.row (fun g hg => hb.block g (lt_own h.row hg)), h.old, fun j h1 h2 => row_keep (h.new j h1 h2) (fun g hg => hb.block g (lt_own (h.new j h1 h2) hg)), h.ap, ⟨d1, d2, d3, by omega, by omega⟩, h.hi', ext_trans h.be hb⟩

end Go.Proofs.YtkobeajbiendlaaDoor
namespace Go.Proofs.YtkobeajbiendlaaDoor
open Go.RowKit

set_option maxHeartbeats 2000000 in
theorem bcopy_ok {w : World} {lo hi p : Nat} {m : Mm} (h : Bm w lo hi p m) :
    Calls Tryd.prog 66 #[.pointer (some ⟨p, 0, none⟩)] w fun e w' => ∃ p', e = .returned (.pointer (some ⟨p', 0, none⟩)) ∧ Bm w' w.heap.size w'.heap.size p' m ∧ Below w.heap.size w w' := by
  obtain ⟨q, R, h⟩ := h
  obtain ⟨cp, t1, t2⟩ := h.top
  have H := Lib.hid h
  have HN := Lib.hid (Mm.nb_of h.ok)
  have HC := Lib.hid (clone_bank w.drew (row_keep t2 (fun _ _ => rfl)) (bank_one h) (by have := HN.out.2.1; omega))
  obtain ⟨k0, k1, k2, k3, k4, k5, k6, k7⟩ := top_at t1
  have hp := lt_of t1
  have HT := Lib.hid t1
  clear t1 t2 h
  go_enter Tryd.func66, Tryd.ntmps66
  go_wp2_with fail
  have QQ := HT.out
  go_region_held3 (fun w' => w'.cell? ⟨p, 0, none⟩ = some (.int .i64 m.c.co) ∧ w'.cell? ⟨p, 1, none⟩ = some (.int .i64 m.c.gr) ∧ w'.cell? ⟨p, 2, none⟩ = some (.int .i64 m.c.se) ∧ w'.cell? ⟨p, 3, none⟩ = some (.int .i64 m.c.wa) ∧ w'.cell? ⟨p, 4, none⟩ = some (.int .i64 m.c.de) ∧ w'.cell? ⟨p, 5, none⟩ = some (.int .i64 m.c.en) ∧ w'.cell? ⟨p, 6, none⟩ = some (.int .i64 m.c.ba) ∧ w'.cell? ⟨p, 7, none⟩ = some (.slice (some ⟨q, 0, none⟩) m.nb cp))
    (first | exact top_at QQ | exact top_at (alOld QQ))
    (first
      | (go_at_call 82; refine HC.out.mono ?_; rintro e w2 ⟨v, rfl, ho, hb⟩; obtain ⟨q', c', rfl⟩ := form_pos ho HN.out.1; have HO := Lib.hid ho; have HB := Lib.hid hb; have QQ := (hb.block p hp).trans HT.out; clear ho hb))
  clear k0 k1 k2 k3 k4 k5 k6 k7 hp QQ
  have HP := Lib.hid (cp_zero H.out (ext_trans (ext_drew (Below.refl _ _)) HB.out) (own_ge HO.out rfl) HO.out)
  obtain ⟨k0, k1, k2, k3, k4, k5, k6, k7⟩ := top_at HP.out.top
  have hl := HP.out.bd.2.2.2.1
  generalize w2.heap.size = p' at *
  go_wp2_with fail
  go_loopg [23] m.nb (fun g s23 wr => ∃ (i : Nat) (R' : Nat → Value), s23 = .int .i64 i ∧ i + g = m.nb ∧ Hid (Cp w wr i lo hi p q p' q' c' R R' m))
  case atStart => exact ⟨0, R, rfl, by omega, HP⟩
  case round =>
    obtain ⟨i, R', rfl, hi, HR⟩ := hrel
    by_cases hlt : i < m.nb
    · have ek : decide ((i : Int) < (m.nb : Int)) = true := by simp; omega
      go_wp2_with fail
      have HT1 := Lib.hid HR.out.top
      have HLI := Lib.hid hlt
      have hi4 : (i : Int) ≤ 4 := by have := HN.out.2.1; omega
      obtain ⟨j0, j1, j2, j3, j4, j5, j6, j7⟩ := top_at HR.out.top
      have hl1 := HR.out.bd.2.2.2.1
      have hl2 := HR.out.bd.2.2.2.2
      have hRi := HR.out.old i (Nat.le_refl _) hlt
      have hx := row_at HR.out.row hlt
      have hrow := HR.out.src.ln i hlt
      obtain ⟨A, cc, hA, _⟩ := row_form hrow
      rw [hRi, hA] at hx
      rw [hA] at hrow
      have hxq := own_free HR.out.row (i * 3 + 2)
      have HX := Lib.hid hx
      have HXQ := Lib.hid hxq
      have HRW := Lib.hid hrow
      have HCL := Lib.hid (show cntB m.nb m.n i ≤ 1000 by have := cnt_le (n := m.n) (i := i) HN.out.1; have := m.n_le; omega)
      have hpq := HR.out.bd.2.2.1
      clear hRi hA hrow
      generalize hcn : cntB m.nb m.n i = cn at *
      have HCN := Lib.hid (clone_line wr.drew (row_keep (w' := wr.drew) HRW.out (fun _ _ => rfl)) (tab_one fun _ _ => rfl) HCL.out)
      go_region_with (go_at_call 83; refine HCN.out.mono ?_; rintro e w4 ⟨v', rfl, ho, hb⟩; have HO4 := Lib.hid ho; have HB4 := Lib.hid hb; obtain ⟨i0, i1, i2, i3, i4, i5, i6, i7⟩ := top_at ((hb.block _ hl1).trans HT1.out); have hl3 := Nat.lt_of_lt_of_le hl1 hb.size; have hl4 := Nat.lt_of_lt_of_le hl2 hb.size; have hx4 := (hb.cell (p := ⟨q', i * 3 + 2, none⟩) hl2).trans HX.out; have hf4 := (hb.frozen (p := ⟨q', i * 3 + 2, none⟩) hl2).trans HXQ.out; obtain ⟨A4, c4, rfl, _⟩ := row_form ho; clear ho hb)
      all_goals
        have HN4 := Lib.hid (cp_next HR.out HLI.out (ext_trans (ext_drew (Below.refl _ _)) HB4.out) (v := .slice A4 cn c4) (by rw [hcn]; exact HO4.out))
        clear hx4 hf4 i0 i1 i2 i3 i4 i5 i6 i7 j0 j1 j2 j3 j4 j5 j6 j7 hx hxq
        go_wp2_with fail
        go_roundg (m.nb - (i + 1))
        case measure => omega
        case rel => exact ⟨i + 1, _, by go_num, by have := HLI.out; omega, Lib.hid (by first | exact HN4.out | exact HN4.out.ext (ext_drew (Below.refl _ _)))⟩
    · have ek : decide ((i : Int) < (m.nb : Int)) = false := by simp; omega
      obtain rfl : i = m.nb := by omega
      have HE := Lib.hid (cp_end HR.out)
      have HBE := Lib.hid HR.out.be
      go_wp2_with fail
      go_ret
      exact ⟨_, rfl, HE.out, HBE.out⟩

end Go.Proofs.YtkobeajbiendlaaDoor
