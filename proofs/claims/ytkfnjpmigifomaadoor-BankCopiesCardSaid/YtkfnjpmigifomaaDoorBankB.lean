/- What this text holds: where a line and a word of a memory lie (find, word), Get, Set. Condition: the table of limits holds what its initialiser lays. -/
import Derived.Test.YtkfnjpmigifomaaDoorBank
namespace Go.Proofs.YtkfnjpmigifomaaDoor
open Go.RowKit

/-- How many lines there are. -/
def Mm.n (m : Mm) : Nat := (lin m.c).toNat
theorem Mm.n_of (m : Mm) : (m.n : Int) = lin m.c := by have := (lin_bd m.c).1; unfold Mm.n; omega
theorem Mm.n_le (m : Mm) : m.n ≤ 32 := by have := (lin_bd m.c).2; unfold Mm.n; omega
theorem bfind_nil (x : Int) (w : World) : Calls Tryd.prog 65 #[.pointer none, .int .i64 x] w fun e w' => e = .returned (.tuple #[.pointer none, .int .i64 0, .int .i64 2]) ∧ w' = w := by
  go_enter Tryd.func65, Tryd.ntmps65
  go_wp2
  go_ret3
  exact ⟨rfl, rfl⟩
set_option maxHeartbeats 800000 in
theorem bfind_no {w : World} {lo hi p q : Nat} {R : Nat → Value} {m : Mm} (h : Bk w lo hi m.n p q R m) (hL : Lims w) (x : Int) (hx : x < 0 ∨ (m.n : Int) ≤ x) :
    Calls Tryd.prog 65 #[.pointer (some ⟨p, 0, none⟩), .int .i64 x] w fun e w' => e = .returned (.tuple #[.pointer none, .int .i64 0, .int .i64 10]) ∧ Below w.heap.size w w' := by
  have HL := Lib.hid hL
  have HX := Lib.hid (show x < 0 ∨ lin m.c ≤ x by rw [← Mm.n_of]; exact hx)
  obtain ⟨cp, k0, k1, k2, k3, k4, k5, k6, k7, hcp⟩ := h.tops
  obtain ⟨hp, hq⟩ := h.lt
  clear hL hx h
  go_enter Tryd.func65, Tryd.ntmps65
  go_wp2_with fail
  refine (bank_no m.c x w HL.out HX.out).mono ?_
  rintro e w1 ⟨rfl, hb⟩
  go_wp2_with fail
  go_ret3
  exact ⟨rfl, hb⟩
set_option maxHeartbeats 1600000 in
theorem bfind_ok {w : World} {lo hi p q : Nat} {R : Nat → Value} {m : Mm} (h : Bk w lo hi m.n p q R m) (hL : Lims w) (l : Nat) (hl : l < m.n) :
    Calls Tryd.prog 65 #[.pointer (some ⟨p, 0, none⟩), .int .i64 l] w fun e w' => e = .returned (.tuple #[.pointer (some ⟨q, l % m.nb * 3, none⟩), .int .i64 (l / m.nb : Nat), .int .i64 0]) ∧ Below w.heap.size w w' := by
  obtain ⟨n1, n4, hnb⟩ := Mm.nb_of h.ok
  have hlt : l % m.nb < m.nb := Nat.mod_lt _ n1
  have em : (l : Int) % m.c.ba = ((l % m.nb : Nat) : Int) := by rw [← hnb]; omega
  have ed : (l : Int) / m.c.ba = ((l / m.nb : Nat) : Int) := by rw [← hnb]; omega
  have HC := bank_ok m.c l w hL (by omega) (by rw [← Mm.n_of]; omega) (by omega)
  rw [em] at HC
  have HC := Lib.hid HC
  have HK := Lib.hid h
  obtain ⟨cp, k0, k1, k2, k3, k4, k5, k6, k7, hcp⟩ := h.tops
  obtain ⟨hp, hq⟩ := h.lt
  have hb0 : (m.c.ba == 0) = false := by rw [beq_eq_false_iff_ne]; omega
  have hba : 1 ≤ m.c.ba := by omega
  have hl32 : (l : Int) ≤ 32 := by have := m.n_le; omega
  have hj32 : ((l / m.nb : Nat) : Int) ≤ 32 := by have := Nat.div_le_self l m.nb; omega
  clear hL h em hnb
  generalize l % m.nb = i at HC hlt ⊢
  generalize l / m.nb = j at ed hj32 ⊢
  go_enter Tryd.func65, Tryd.ntmps65
  go_wp2_with fail
  refine HC.out.mono ?_
  rintro e w1 ⟨rfl, hb⟩
  have HB := Lib.hid hb
  obtain ⟨cp, k0, k1, k2, k3, k4, k5, k6, k7, hcp⟩ := (HK.out.ext hb).tops
  obtain ⟨hp, hq⟩ := (HK.out.ext hb).lt
  clear hb
  go_wp2_with fail
  refine region_past (by kernel_rfl) (by kernel_rfl) ?_; (repeat (go_big_quiet_step (fail))); refine wpQuiet_nil ?_; rintro _ ⟨pw, rfl⟩
  go_wp2_with fail
  go_ret3
  exact ⟨rfl, ext_past pw HB.out⟩
theorem bword_nil (x : Int) (w : World) : Calls Tryd.prog 67 #[.pointer none, .int .i64 x] w fun e w' => e = .returned (.tuple #[.pointer none, .int .i64 2]) ∧ w' = w := by
  go_enter Tryd.func67, Tryd.ntmps67
  go_wp2
  go_ret2
  exact ⟨rfl, rfl⟩
set_option maxHeartbeats 800000 in
theorem bword_no {w : World} {lo hi p q : Nat} {R : Nat → Value} {m : Mm} (h : Bk w lo hi m.n p q R m) (hL : Lims w) (x : Int) (hx : x < 0 ∨ 2 * (m.n : Int) ≤ x) :
    Calls Tryd.prog 67 #[.pointer (some ⟨p, 0, none⟩), .int .i64 x] w fun e w' => e = .returned (.tuple #[.pointer none, .int .i64 10]) ∧ Below w.heap.size w w' := by
  have HL := Lib.hid hL
  have HX := Lib.hid (show x < 0 ∨ lin m.c * 2 ≤ x by rw [← Mm.n_of]; omega)
  obtain ⟨cp, k0, k1, k2, k3, k4, k5, k6, k7, hcp⟩ := h.tops
  obtain ⟨hp, hq⟩ := h.lt
  clear hL hx h
  go_enter Tryd.func67, Tryd.ntmps67
  go_wp2_with fail
  refine (line_no m.c x w HL.out HX.out).mono ?_
  rintro e w1 ⟨rfl, hb⟩
  go_wp2_with fail
  go_ret2
  exact ⟨rfl, hb⟩
set_option maxHeartbeats 1600000 in
theorem bword_ok {w : World} {lo hi p q : Nat} {R : Nat → Value} {m : Mm} (h : Bk w lo hi m.n p q R m) (hL : Lims w) (l k : Nat) (hl : l < m.n) (hk : k < 2) {b cap : Nat} (hR : R (l % m.nb) = .slice (some ⟨b, 0, none⟩) (cntB m.nb m.n (l % m.nb)) cap) :
    Calls Tryd.prog 67 #[.pointer (some ⟨p, 0, none⟩), .int .i64 (2 * l + k : Nat)] w fun e w' => e = .returned (.tuple #[.pointer (some ⟨b, l / m.nb * 2 + k, none⟩), .int .i64 0]) ∧ Below w.heap.size w w' := by
  obtain ⟨n1, n4, hnb⟩ := Mm.nb_of h.ok
  have hlt : l % m.nb < m.nb := Nat.mod_lt _ n1
  have hjc := cnt_lt n1 n4 hl
  have em : ((2 * l + k : Nat) : Int) / 2 = (l : Int) := by omega
  have ek : ((2 * l + k : Nat) : Int) % 2 = (k : Int) := by omega
  have HC := line_ok m.c (2 * l + k : Nat) w hL (by omega) (by rw [← Mm.n_of]; omega)
  rw [em, ek] at HC
  have HC := Lib.hid HC
  have HK := Lib.hid h
  have HF := fun w1 (hb : Below w.heap.size w w1) => bfind_ok (h.ext hb) (Lims.ext hb hL) l hl
  have HR : ∀ w1, Below w.heap.size w w1 → w1.cell? ⟨q, l % m.nb * 3 + 2, none⟩ = some (.slice (some ⟨b, 0, none⟩) (cntB m.nb m.n (l % m.nb)) cap) := fun w1 hb => by rw [← hR]; exact ((h.ext hb).bank _ hlt).2.2
  obtain ⟨cp, k0, k1, k2, k3, k4, k5, k6, k7, hcp⟩ := h.tops
  obtain ⟨hp, hq⟩ := h.lt
  clear hL h em ek hnb hl hR
  generalize cntB m.nb m.n (l % m.nb) = N at HR hjc
  generalize l % m.nb = i at *
  generalize l / m.nb = j at *
  have HF := Lib.hid HF
  have HR := Lib.hid HR
  go_enter Tryd.func67, Tryd.ntmps67
  go_wp2_with fail
  refine HC.out.mono ?_
  rintro e w1 ⟨rfl, hb⟩
  have HB := Lib.hid hb
  clear hb k0 k1 k2 k3 k4 k5 k6 k7 hp hq HC
  go_wp2_with fail
  refine (HF.out w1 HB.out).mono ?_
  rintro e w2 ⟨rfl, hb⟩
  have HB2 := Lib.hid (ext_trans HB.out hb)
  have k2 := HR.out w2 (ext_trans HB.out hb)
  clear hb
  go_wp2_with fail
  go_ret2
  exact ⟨rfl, HB2.out⟩

/-- A memory. -/
def Bm (w : World) (lo hi p : Nat) (m : Mm) : Prop := ∃ q R, Bk w lo hi m.n p q R m
theorem Bm.ext {w w' : World} {lo hi p : Nat} {m : Mm} (h : Bm w lo hi p m) (hb : Below w.heap.size w w') : Bm w' lo hi p m := by
  obtain ⟨q, R, h⟩ := h; exact ⟨q, R, h.ext hb⟩
theorem Bm.rg {w w' : World} {lo hi p lo' hi' : Nat} {m : Mm} (h : Bm w lo hi p m) (hr : Rg lo' hi' w w') (hd : hi ≤ lo' ∨ hi' ≤ lo) : Bm w' lo hi p m := by
  obtain ⟨q, R, h⟩ := h; exact ⟨q, R, h.rg hr hd⟩
theorem Bm.sz {w : World} {lo hi p : Nat} {m : Mm} (h : Bm w lo hi p m) : hi ≤ w.heap.size ∧ lo ≤ p ∧ p < hi := by
  obtain ⟨q, R, h⟩ := h; exact ⟨h.sz, h.bd.1, h.bd.2.1⟩
theorem Bm.gl {w : World} {lo hi p : Nat} {m : Mm} (h : Bm w lo hi p m) : 1 < lo := by
  obtain ⟨q, R, h⟩ := h; exact h.gl
theorem Bm.ok {w : World} {lo hi p : Nat} {m : Mm} (h : Bm w lo hi p m) : m.c.ok := by
  obtain ⟨q, R, h⟩ := h; exact h.ok
/-- A word's cell. -/
theorem Bk.word {w : World} {lo hi p q : Nat} {R : Nat → Value} {m : Mm} (h : Bk w lo hi m.n p q R m) (i : Nat) (hi' : i < 2 * m.n) :
    ∃ b l k cap, l < m.n ∧ k < 2 ∧ i = 2 * l + k ∧ R (l % m.nb) = .slice (some ⟨b, 0, none⟩) (cntB m.nb m.n (l % m.nb)) cap ∧ lo ≤ b ∧ b < hi ∧ w.cell? ⟨b, l / m.nb * 2 + k, none⟩ = some (.int .i64 (m.wd i)) ∧ w.frozen? ⟨b, l / m.nb * 2 + k, none⟩ = false := by
  obtain ⟨b, cap, h1, h2, h3, _, h5, h6, h7⟩ := h.line (i / 2) (by omega)
  refine ⟨b, i / 2, i % 2, cap, by omega, by omega, by omega, h1, h2, h3, ?_, h5 _⟩
  have : i % 2 = 0 ∨ i % 2 = 1 := by omega
  rcases this with e | e
  · rw [e, Nat.add_zero, h6]
    congr 3
    omega
  · rw [e]
    rw [h7]
    congr 3
    omega

theorem bget_nil (x : Int) (w : World) : Calls Tryd.prog 22 #[.pointer none, .int .i64 x] w fun e w' => e = .returned (.tuple #[.int .i64 0, .int .i64 2]) ∧ w' = w := by
  go_enter Tryd.func22, Tryd.ntmps22
  go_wp2_with fail
  refine (bword_nil x w).mono ?_
  rintro e w1 ⟨rfl, rfl⟩
  go_wp2_with fail
  go_ret2
  exact ⟨rfl, rfl⟩
theorem bget_no {w : World} {lo hi p : Nat} {m : Mm} (h : Bm w lo hi p m) (hL : Lims w) (x : Int) (hx : x < 0 ∨ 2 * (m.n : Int) ≤ x) :
    Calls Tryd.prog 22 #[.pointer (some ⟨p, 0, none⟩), .int .i64 x] w fun e w' => e = .returned (.tuple #[.int .i64 0, .int .i64 10]) ∧ Below w.heap.size w w' := by
  obtain ⟨q, R, h⟩ := h
  have HC := Lib.hid (bword_no h hL x hx)
  clear h hL hx
  go_enter Tryd.func22, Tryd.ntmps22
  go_wp2_with fail
  refine HC.out.mono ?_
  rintro e w1 ⟨rfl, hb⟩
  go_wp2_with fail
  go_ret2
  exact ⟨rfl, hb⟩
theorem bget_ok {w : World} {lo hi p : Nat} {m : Mm} (h : Bm w lo hi p m) (hL : Lims w) (i : Nat) (hi' : i < 2 * m.n) :
    Calls Tryd.prog 22 #[.pointer (some ⟨p, 0, none⟩), .int .i64 i] w fun e w' => e = .returned (.tuple #[.int .i64 (m.wd i), .int .i64 0]) ∧ Below w.heap.size w w' := by
  obtain ⟨q, R, h⟩ := h
  obtain ⟨b, l, k, cap, hl, hk, e, hR, h1, h2, hc, _⟩ := h.word i hi'
  have HC := bword_ok h hL l k hl hk hR
  rw [← e] at HC
  have HC := Lib.hid HC
  have hbl : b < w.heap.size := by have := h.sz; omega
  clear h hL hi' e hR hl
  generalize l / m.nb * 2 + k = o at *
  go_enter Tryd.func22, Tryd.ntmps22
  go_wp2_with fail
  refine HC.out.mono ?_
  rintro e w1 ⟨rfl, hb⟩
  have HB := Lib.hid hb
  have hc1 := (hb.cell (p := ⟨b, o, none⟩) hbl).trans hc
  clear hb hc
  go_wp2_with fail
  go_ret2
  exact ⟨rfl, HB.out⟩

theorem bset_nil (x y : Int) (w : World) : Calls Tryd.prog 20 #[.pointer none, .int .i64 x, .int .i64 y] w fun e w' => e = .returned (.int .i64 2) ∧ w' = w := by
  go_enter Tryd.func20, Tryd.ntmps20
  go_wp2_with fail
  refine (bword_nil x w).mono ?_
  rintro e w1 ⟨rfl, rfl⟩
  go_wp2_with fail
  go_ret
  exact ⟨rfl, rfl⟩
theorem bset_no {w : World} {lo hi p : Nat} {m : Mm} (h : Bm w lo hi p m) (hL : Lims w) (x y : Int) (hx : x < 0 ∨ 2 * (m.n : Int) ≤ x) :
    Calls Tryd.prog 20 #[.pointer (some ⟨p, 0, none⟩), .int .i64 x, .int .i64 y] w fun e w' => e = .returned (.int .i64 10) ∧ Below w.heap.size w w' := by
  obtain ⟨q, R, h⟩ := h
  have HC := Lib.hid (bword_no h hL x hx)
  clear h hL hx
  go_enter Tryd.func20, Tryd.ntmps20
  go_wp2_with fail
  refine HC.out.mono ?_
  rintro e w1 ⟨rfl, hb⟩
  go_wp2_with fail
  go_ret
  exact ⟨rfl, hb⟩
theorem bset_ok {w : World} {lo hi p : Nat} {m : Mm} (h : Bm w lo hi p m) (hL : Lims w) (i : Nat) (hi' : i < 2 * m.n) (y : Int) :
    Calls Tryd.prog 20 #[.pointer (some ⟨p, 0, none⟩), .int .i64 i, .int .i64 y] w fun e w' => e = .returned (.int .i64 0) ∧ Bm w' lo hi p { m with wd := updN m.wd i y } ∧ Rg lo hi w w' := by
  obtain ⟨q, R, h⟩ := h
  obtain ⟨b, l, k, cap, hl, hk, e, hR, h1, h2, hc, hf⟩ := h.word i hi'
  have HC := bword_ok h hL l k hl hk hR
  rw [← e] at HC
  have HC := Lib.hid HC
  have hbl : b < w.heap.size := by have := h.sz; omega
  have HS : ∀ w1, Below w.heap.size w w1 → Bm (w1.setCell ⟨b, l / m.nb * 2 + k, none⟩ (.int .i64 y)) lo hi p { m with wd := updN m.wd i y } := fun w1 hb => by
    have := (h.ext hb).setW l hl hR k hk y
    rw [← e] at this
    exact ⟨q, R, this⟩
  have HS := Lib.hid HS
  have HT := Lib.hid (show lo ≤ b ∧ b < hi from ⟨h1, h2⟩)
  clear h hL hi' e hR hl h1 h2
  generalize l / m.nb * 2 + k = o at *
  go_enter Tryd.func20, Tryd.ntmps20
  go_wp2_with fail
  refine HC.out.mono ?_
  rintro e w1 ⟨rfl, hb⟩
  have HB := Lib.hid hb
  have hc1 := (hb.cell (p := ⟨b, o, none⟩) hbl).trans hc
  have hf1 := (hb.frozen (p := ⟨b, o, none⟩) hbl).trans hf
  clear hb hc hf
  go_wp2_with fail
  go_ret
  exact ⟨rfl, HS.out _ HB.out, (Rg.of_below HB.out).trans (Rg.set _ _ HT.out.1 HT.out.2)⟩

end Go.Proofs.YtkfnjpmigifomaaDoor
