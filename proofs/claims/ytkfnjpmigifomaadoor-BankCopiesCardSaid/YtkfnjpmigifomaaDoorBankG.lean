/- What this text holds: a memory's Read, Uses. Condition: the table of limits holds what its initialiser lays. -/
import Derived.Test.YtkfnjpmigifomaaDoorBankE
import Derived.Test.YtkfnjpmigifomaaDoorBankC
namespace Go.Proofs.YtkfnjpmigifomaaDoor
open Go.RowKit

/-- A memory behind a Read. -/
def Mm.got (m : Mm) (l : Nat) : Mm := { m with rd := updN m.rd (l % m.nb) (wrap64 (m.rd (l % m.nb) + 1)) }
theorem pair_at {W : World} {b : Nat} {x y : Value} {t : TypeId} (h : W.heap[b]? = some (.cells #[x, y] t (0, 0))) : W.cell? ⟨b, 0, none⟩ = some x ∧ W.cell? ⟨b, 1, none⟩ = some y ∧ W.frozen? ⟨b, 0, none⟩ = false ∧ W.frozen? ⟨b, 1, none⟩ = false ∧ b < W.heap.size := by
  refine ⟨?_, ?_, ?_, ?_, lt_of h⟩ <;> simp [World.cell?, World.frozen?, h]
/-- Two stores to a pair. -/
theorem set2_at {W : World} {b : Nat} {x y : Value} {t : TypeId} (u v : Value) (h : W.heap[b]? = some (.cells #[x, y] t (0, 0))) : ((W.setCell ⟨b, 0, none⟩ u).setCell ⟨b, 1, none⟩ v).heap[b]? = some (.cells #[u, v] t (0, 0)) := by
  have s0 := Joins.block_setCell (i := 0) h u
  have s1 := Joins.block_setCell (i := 1) s0 v
  simpa using s1
theorem set2_below {w W : World} {b : Nat} (u v : Value) (h : Below w.heap.size w W) (hb : w.heap.size ≤ b) : Below w.heap.size w ((W.setCell ⟨b, 0, none⟩ u).setCell ⟨b, 1, none⟩ v) :=
  (h.setCell (p := ⟨b, 0, none⟩) hb _).setCell (p := ⟨b, 1, none⟩) hb _
theorem Rg.box {lo hi : Nat} {w W : World} (h : Rg lo hi w W) {b o : Nat} (v : Value) (hb : w.heap.size ≤ b) : Rg lo hi w (W.setCell ⟨b, o, none⟩ v) :=
  ⟨h.os, h.tape, h.output, by simpa using h.size, fun k hk hn => (Below.heap_setCell _ _ _ _ (by show k ≠ b; omega)).trans (h.block k hk hn)⟩
theorem Bm.box {w : World} {lo hi p : Nat} {m : Mm} (h : Bm w lo hi p m) {b o : Nat} (v : Value) (hb : hi ≤ b) : Bm (w.setCell ⟨b, o, none⟩ v) lo hi p m :=
  h.rg (Rg.set (lo := b) (hi := b + 1) w v (Nat.le_refl _) (by omega)) (.inl hb)
set_option maxHeartbeats 1000000 in
theorem bread_no {w : World} {lo hi p : Nat} {m : Mm} (h : Bm w lo hi p m) (hL : Lims w) (x : Int) (hx : x < 0 ∨ (m.n : Int) ≤ x) :
    Calls Tryd.prog 18 #[.pointer (some ⟨p, 0, none⟩), .int .i64 x] w fun e w' => e = .returned (.tuple #[.agg #[.int .i64 0, .int .i64 0], .int .i64 10]) ∧ Below w.heap.size w w' := by
  obtain ⟨q, R, h⟩ := h
  have HF := Lib.hid (bfind_no (h.ext (ext_alloc (.cells #[.int .i64 0, .int .i64 0] 26) (Below.refl _ w))) (hL.alloc _) x hx)
  clear h hL hx
  go_enter Tryd.func18, Tryd.ntmps18
  go_wp2_with fail
  refine HF.out.mono ?_
  rintro e w1 ⟨rfl, hb⟩
  have HX := Lib.hid ((hb.block w.heap.size (by simp)).trans (alNew rfl))
  obtain ⟨x0, x1, f0, f1, xl⟩ := pair_at HX.out
  have HB := Lib.hid (ext_trans (ext_alloc _ (Below.refl _ _)) hb)
  clear hb
  go_wp2_with fail
  obtain ⟨W2, hW2⟩ : ∃ W2, W2 = (w1.setCell ⟨w.heap.size, 0, none⟩ (.int .i64 0)).setCell ⟨w.heap.size, 1, none⟩ (.int .i64 0) := ⟨_, rfl⟩
  have hX2 := set2_at (.int .i64 0) (.int .i64 0) HX.out
  have hB2 := set2_below (.int .i64 0) (.int .i64 0) HB.out (Nat.le_refl _)
  rw [← hW2] at hX2 hB2 ⊢
  clear x0 x1 hW2
  obtain ⟨x0, x1, _, _, _⟩ := pair_at hX2
  (try simp only [Exit.inBlock, Exit.then]); refine bodyPost_ret (by simp [results, Tryd.results18, go_sem, x0, x1]; try rfl) rfl ?_
  exact ⟨rfl, hB2⟩
set_option maxHeartbeats 1600000 in
theorem bread_ok {w : World} {lo hi p : Nat} {m : Mm} (h : Bm w lo hi p m) (hL : Lims w) (l : Nat) (hl : l < m.n) :
    Calls Tryd.prog 18 #[.pointer (some ⟨p, 0, none⟩), .int .i64 l] w fun e w' => e = .returned (.tuple #[.agg #[.int .i64 (m.wd (2 * l)), .int .i64 (m.wd (2 * l + 1))], .int .i64 0]) ∧ Bm w' lo hi p (m.got l) ∧ Rg lo hi w w' := by
  obtain ⟨q, R, h⟩ := h
  obtain ⟨n1, n4, hnb⟩ := Mm.nb_of h.ok
  have hlt : l % m.nb < m.nb := Nat.mod_lt _ n1
  obtain ⟨b, cap, hR, h2, h3, hjc, hf, h6, h7⟩ := h.line l hl
  have HF := Lib.hid (fun w1 (hb : Below w.heap.size w w1) => bfind_ok (h.ext hb) (Lims.ext hb hL) l hl)
  have HK := Lib.hid (fun w1 (hb : Below w.heap.size w w1) => (h.ext hb).bank _ hlt)
  have HQ := Lib.hid (fun w1 (hb : Below w.heap.size w w1) => (h.ext hb).free)
  have HN := Lib.hid (fun w1 (hb : Below w.heap.size w w1) => (h.ext hb).lt)
  have HS := Lib.hid (fun w1 (hb : Below w.heap.size w w1) => show Bm (w1.setCell ⟨q, l % m.nb * 3, none⟩ (.int .i64 (wrap64 (m.rd (l % m.nb) + 1)))) lo hi p (m.got l) from
    ⟨q, R, (h.ext hb).setR (l % m.nb) (wrap64 (m.rd (l % m.nb) + 1))⟩)
  have HT := Lib.hid (show lo ≤ q ∧ q < hi ∧ hi ≤ w.heap.size from ⟨h.bd.2.2.1, h.bd.2.2.2.1, h.sz⟩)
  have hbl : b < w.heap.size := by have := h.sz; omega
  have hqb : b ≠ q := fun e => (h.up _ hlt b (by rw [hR]; rfl)).2.2.1 e
  rw [hR] at HK
  clear h hL hl hR hnb h2 h3 n1 n4 hf
  generalize m.got l = mm at HS ⊢
  generalize cntB m.nb m.n (l % m.nb) = N at *
  generalize m.rd (l % m.nb) = c at *
  generalize l % m.nb = i at *
  generalize l / m.nb = j at *
  go_enter Tryd.func18, Tryd.ntmps18
  go_wp2_with fail
  refine (HF.out _ (ext_alloc _ (Below.refl _ _))).mono ?_
  rintro e w1 ⟨rfl, hb⟩
  have HB := Lib.hid (ext_trans (ext_alloc _ (Below.refl _ _)) hb)
  obtain ⟨k0, _, k2⟩ := HK.out w1 HB.out
  obtain ⟨_, hq⟩ := HN.out w1 HB.out
  have hfq := HQ.out w1 HB.out
  have HX := Lib.hid ((hb.block w.heap.size (by simp)).trans (alNew rfl))
  obtain ⟨x0, x1, f0, f1, xl⟩ := pair_at HX.out
  have y0 := (HB.out.cell (p := ⟨b, j * 2, none⟩) hbl).trans h6
  have y1 := (HB.out.cell (p := ⟨b, j * 2 + 1, none⟩) hbl).trans h7
  have hnx : w.heap.size ≠ q := by have := (HN.out w (Below.refl _ _)).2; omega
  have hbl1 : b < w1.heap.size := Nat.lt_of_lt_of_le hbl HB.out.size
  have hnb : w.heap.size ≠ b := by omega
  clear hb h6 h7
  go_wp2_with fail
  have HS := Lib.hid (HS.out w1 HB.out)
  have hX1 := (Below.heap_setCell w1 ⟨q, i * 3, none⟩ (.int .i64 (wrap64 (c + 1))) w.heap.size hnx).trans HX.out
  obtain ⟨W2, hW2⟩ : ∃ W2, W2 = w1.setCell ⟨q, i * 3, none⟩ (.int .i64 (wrap64 (c + 1))) := ⟨_, rfl⟩
  have hR2 := (Rg.of_below (lo := lo) (hi := hi) HB.out).trans (Rg.set (o := i * 3) (bd := none) w1 (.int .i64 (wrap64 (c + 1))) HT.out.1 HT.out.2.1)
  have HS1 := HS.out
  rw [← hW2] at hX1 hR2 HS1 ⊢
  have hX2 := set2_at (.int .i64 (m.wd (2 * l))) (.int .i64 (m.wd (2 * l + 1))) hX1
  have hB2 := (hR2.box (o := 0) (.int .i64 (m.wd (2 * l))) (Nat.le_refl _)).box (o := 1) (.int .i64 (m.wd (2 * l + 1))) (Nat.le_refl _)
  have HS2 := (HS1.box (o := 0) (.int .i64 (m.wd (2 * l))) HT.out.2.2).box (o := 1) (.int .i64 (m.wd (2 * l + 1))) HT.out.2.2
  obtain ⟨W3, hW3⟩ : ∃ W3, W3 = (W2.setCell ⟨w.heap.size, 0, none⟩ (.int .i64 (m.wd (2 * l)))).setCell ⟨w.heap.size, 1, none⟩ (.int .i64 (m.wd (2 * l + 1))) := ⟨_, rfl⟩
  rw [← hW3] at hX2 hB2 HS2 ⊢
  clear x0 x1 hW2 hW3 HS1 hR2 hX1
  obtain ⟨x0, x1, _, _, _⟩ := pair_at hX2
  (try simp only [Exit.inBlock, Exit.then]); refine bodyPost_ret (by simp [results, Tryd.results18, go_sem, x0, x1]; try rfl) rfl ?_
  exact ⟨rfl, HS2, hB2⟩

set_option maxHeartbeats 1000000 in
theorem bwrite_no {w : World} {lo hi p : Nat} {m : Mm} (h : Bm w lo hi p m) (hL : Lims w) (x a b : Int) (hx : x < 0 ∨ (m.n : Int) ≤ x) :
    Calls Tryd.prog 16 #[.pointer (some ⟨p, 0, none⟩), .int .i64 x, .agg #[.int .i64 a, .int .i64 b]] w fun e w' => e = .returned (.int .i64 10) ∧ Below w.heap.size w w' := by
  obtain ⟨q, R, h⟩ := h
  have HF := Lib.hid (bfind_no (h.ext (ext_alloc (.cells #[.int .i64 a, .int .i64 b] 26) (Below.refl _ w))) (hL.alloc _) x hx)
  clear h hL hx
  go_enter Tryd.func16, Tryd.ntmps16
  go_wp2_with fail
  refine HF.out.mono ?_
  rintro e w1 ⟨rfl, hb⟩
  go_wp2_with fail
  go_ret
  exact ⟨rfl, ext_trans (ext_alloc _ (Below.refl _ _)) hb⟩
theorem buses_no {w : World} {lo hi p : Nat} {m : Mm} (h : Bm w lo hi p m) (x : Int) (hx : x < 0 ∨ (m.nb : Int) ≤ x) :
    Calls Tryd.prog 70 #[.pointer (some ⟨p, 0, none⟩), .int .i64 x] w fun e w' => e = .returned (.tuple #[.int .i64 0, .int .i64 0, .int .i64 10]) ∧ w' = w := by
  obtain ⟨q, R, h⟩ := h
  obtain ⟨cp, k0, k1, k2, k3, k4, k5, k6, k7, hcp⟩ := h.tops
  obtain ⟨hp, hq⟩ := h.lt
  clear h
  by_cases h0 : x < 0
  · have e0 : decide (x < 0) = true := by simpa using h0
    go_enter Tryd.func70, Tryd.ntmps70
    go_wp2_with fail
    go_ret3
    exact ⟨rfl, rfl⟩
  · have e0 : decide (x < 0) = false := by simpa using h0
    have e1 : decide (x ≥ (m.nb : Int)) = true := by simp; omega
    go_enter Tryd.func70, Tryd.ntmps70
    go_wp2_with fail
    go_ret3
    exact ⟨rfl, rfl⟩
set_option maxHeartbeats 1000000 in
theorem buses_ok {w : World} {lo hi p : Nat} {m : Mm} (h : Bm w lo hi p m) (i : Nat) (hi' : i < m.nb) :
    Calls Tryd.prog 70 #[.pointer (some ⟨p, 0, none⟩), .int .i64 i] w fun e w' => e = .returned (.tuple #[.int .i64 (m.rd i), .int .i64 (m.wr i), .int .i64 0]) ∧ Below w.heap.size w w' := by
  obtain ⟨q, R, h⟩ := h
  obtain ⟨cp, k0, k1, k2, k3, k4, k5, k6, k7, hcp⟩ := h.tops
  obtain ⟨y0, y1, _⟩ := h.bank i hi'
  obtain ⟨hp, hq⟩ := h.lt
  clear h
  have e0 : decide ((i : Int) < 0) = false := by simp
  have e1 : decide ((i : Int) ≥ (m.nb : Int)) = false := by simp; omega
  go_enter Tryd.func70, Tryd.ntmps70
  go_wp2_with fail
  refine region_past (by kernel_rfl) (by kernel_rfl) ?_; (repeat (go_big_quiet_step (fail))); refine wpQuiet_nil ?_; rintro _ ⟨p, rfl⟩
  go_wp2_with fail
  go_ret3
  exact ⟨rfl, p.below⟩

end Go.Proofs.YtkfnjpmigifomaaDoor
