/- What this text holds: the document's memory of chapter 2: New, Read, Write, Scrub, Copy. No condition. -/
import Derived.Test.YtkfnjpmigifomaaDoorRef02
import Derived.Test.YtkfnjpmigifomaaDoorBankG
import Derived.Test.YtkfnjpmigifomaaDoorBankD
import Derived.BigRegion
import Derived.Test.YtkfnjpmigifomaaDoorBankF
namespace Go.Proofs.YtkfnjpmigifomaaDoor
open Go.RowKit

theorem info_i02 : (Tryd.prog.info? 3).map (fun i => (i.zero, i.size, i.bytes)) = some (some (.int .i64 0), 1, 8) := by kernel_rfl
theorem mk_ints (n : Nat) (hn : n ≤ 1000) (w : World) : (Instr.makeSlice 59 (.int .i64 n) (.int .i64 n)).run Tryd.prog w =
    .ok (.slice (some ⟨w.heap.size, 0, none⟩) n n) (w.alloc (.cells (tab n (wordV fun _ => 0)).toArray 3)) := by
  obtain ⟨i0, hi, hz0, hz1, hz2⟩ := info_parts info_i02
  rw [run_make (P := Tryd.prog) w 59 3 i0 _ Tryd.underlying59 hi hz0 .i64 .i64 n n (by omega) (Int.le_refl _) (by rw [hz2]; omega) (by omega), hz1]
  have e : madeCells (Value.int .i64 0).cells ((n : Int).toNat * 1) = (tab n (wordV fun _ => 0)).toArray := by
    have h0 : (Value.int .i64 0).cells = #[.int .i64 0] := rfl
    rw [h0]
    apply Array.toList_inj.1
    unfold madeCells tab
    simp only [Array.toList_map, Array.toList_range, Int.toNat_natCast, Nat.mul_one]
    apply List.map_congr_left
    intro k _
    simp [wordV, Nat.mod_one]
  rw [e]
  simp
theorem n_gr {m : Mm} (h : m.c.ok) : (2 * m.n : Nat) = 4 * m.c.gr ∧ 1 ≤ m.n ∧ m.n ≤ 32 := by
  have h1 := Mm.n_of m
  have h2 := lin_ok h
  obtain ⟨_, ⟨h3, h4⟩, _⟩ := h
  omega
set_option maxHeartbeats 1000000 in
theorem rnew02 (c : Cfg) (w : World) (hc : c.ok) : Calls Tryd.prog 13 #[.int .i64 c.gr, .int .i64 c.ba] w fun e w' => ∃ p, e = .returned (.pointer (some ⟨p, 0, none⟩)) ∧ Rm w' w.heap.size w'.heap.size p (Mm.zero c) ∧ Below w.heap.size w w' := by
  obtain ⟨h4, h1, h32⟩ := n_gr (m := Mm.zero c) hc
  have hmk := mk_ints (2 * (Mm.zero c).n) (by omega) w
  have eg : (4 : Int) * c.gr = ((2 * (Mm.zero c).n : Nat) : Int) := by rw [h4]; rfl
  have hg : 1 ≤ c.gr ∧ c.gr ≤ 16 := hc.2.1
  have hg1 := hg.1
  have hg2 := hg.2
  rw [← eg] at hmk
  have HEN := Lib.hid (show ∀ x, x = 2 * (Mm.zero c).n → x = 2 * (Mm.zero c).n from fun _ h => h)
  have hs : Hid (∀ wx : World, wx = (w.alloc (.cells (tab (2 * (Mm.zero c).n) (wordV fun _ => 0)).toArray 3)).alloc (.cells #[.slice (some ⟨w.heap.size, 0, none⟩) (2 * (Mm.zero c).n) (2 * (Mm.zero c).n), .int .i64 c.ba, .int .i64 0, .int .i64 0, .int .i64 0, .int .i64 0, .int .i64 0, .int .i64 0, .int .i64 0, .int .i64 0] 62) → Rm wx w.heap.size wx.heap.size (w.heap.size + 1) (Mm.zero c) ∧ Below w.heap.size w wx) := Lib.hid (by
    rintro wx rfl
    refine ⟨⟨w.heap.size, 2 * (Mm.zero c).n, hc, alNew (by simp), ⟨by simp, .inr ⟨w.heap.size, _, _, rfl, Nat.le_refl _, alOld (alNew rfl), Nat.le_refl _, by unfold maxLen; omega, by simp, ?_⟩⟩, ⟨by omega, by simp, Nat.le_refl _, by simp; omega, by omega⟩, Nat.le_refl _⟩, (by repeat (with_reducible first | exact Below.refl _ _ | assumption | (refine ext_next (by assumption) ?_) | apply ext_alloc | apply ext_past | apply ext_drew | apply ext_drewN))⟩
    exact List.take_of_length_le (by simp))
  clear hc h4 eg hg HEN
  generalize (tab (2 * (Mm.zero c).n) (wordV fun _ => 0)).toArray = cs at *
  generalize 2 * (Mm.zero c).n = N at *
  go_enter Tryd.func13, Tryd.ntmps13
  go_wp2_with fail
  go_ret
  obtain ⟨h1, h2⟩ := hs.out _ rfl
  exact ⟨_, rfl, h1, h2⟩

set_option maxHeartbeats 1000000 in
theorem rread02_no {w : World} {lo hi p : Nat} {m : Mm} (h : Rm w lo hi p m) (x : Int) (hx : x < 0 ∨ (m.n : Int) ≤ x) :
    Calls Tryd.prog 59 #[.pointer (some ⟨p, 0, none⟩), .int .i64 x] w fun e w' => e = .returned (.tuple #[.agg #[.int .i64 0, .int .i64 0], .bool false]) ∧ Below w.heap.size w w' := by
  obtain ⟨q, cap, h⟩ := h
  have hn := (n_gr h.ok).2.2
  obtain ⟨k0, k1⟩ := h.sl
  obtain ⟨hp, hq⟩ := h.lt
  clear h
  by_cases h0 : x < 0
  · have e0 : decide (x < 0) = true := by simpa using h0
    go_enter Tryd.func59, Tryd.ntmps59
    go_wp2_with fail
    (try simp only [Exit.inBlock, Exit.then]); refine bodyPost_ret (by simp [results, Tryd.results59, go_sem]; try rfl) rfl ?_
    exact ⟨rfl, (by repeat (with_reducible first | exact Below.refl _ _ | assumption | (refine ext_next (by assumption) ?_) | apply ext_alloc | apply ext_past | apply ext_drew | apply ext_drewN))⟩
  · have e0 : decide (x < 0) = false := by simpa using h0
    have e2 : (2 * m.n : Nat) / (2 : Int) = (m.n : Int) := by omega
    have e1 : decide (x ≥ (m.n : Int)) = true := by simp; omega
    have hN : ((2 * m.n : Nat) : Int) ≤ 64 := by omega
    clear hx hn
    generalize 2 * m.n = N at *
    go_enter Tryd.func59, Tryd.ntmps59
    go_wp2_with fail
    (try simp only [Exit.inBlock, Exit.then]); refine bodyPost_ret (by simp [results, Tryd.results59, go_sem]; try rfl) rfl ?_
    exact ⟨rfl, (by repeat (with_reducible first | exact Below.refl _ _ | assumption | (refine ext_next (by assumption) ?_) | apply ext_alloc | apply ext_past | apply ext_drew | apply ext_drewN))⟩
set_option maxHeartbeats 4000000 in
theorem rread02_ok {w : World} {lo hi p : Nat} {m : Mm} (h : Rm w lo hi p m) (l : Nat) (hl : l < m.n) :
    Calls Tryd.prog 59 #[.pointer (some ⟨p, 0, none⟩), .int .i64 l] w fun e w' => e = .returned (.tuple #[.agg #[.int .i64 (m.wd (2 * l)), .int .i64 (m.wd (2 * l + 1))], .bool true]) ∧ Rm w' lo hi p (m.got l) ∧ Rg lo hi w w' := by
  obtain ⟨q, cap, h⟩ := h
  have hn := (n_gr h.ok).2.2
  obtain ⟨n1, n4, hnb⟩ := Mm.nb_of h.ok
  have hlt : l % m.nb < m.nb := Nat.mod_lt _ n1
  have hi4 : l % m.nb < 4 := by omega
  have H := Lib.hid h
  have HS := Lib.hid (show Rk (w.setCell ⟨p, 2 + l % m.nb, none⟩ (.int .i64 (wrap64 (m.rd (l % m.nb) + 1)))) lo hi p q cap (m.got l) from h.setR (l % m.nb) hi4 (wrap64 (m.rd (l % m.nb) + 1)))
  obtain ⟨k0, k1⟩ := h.sl
  have kr := h.rd (l % m.nb) hi4
  have fr := h.fp (2 + l % m.nb)
  obtain ⟨hp, hq⟩ := h.lt
  have e0 : decide ((l : Int) < 0) = false := by simp
  have e2 : (2 * m.n : Nat) / (2 : Int) = (m.n : Int) := by omega
  have e1 : decide ((l : Int) ≥ (m.n : Int)) = false := by simp; omega
  have hN : ((2 * m.n : Nat) : Int) ≤ 64 := by omega
  have hNl : 2 * (l : Int) + 1 < ((2 * m.n : Nat) : Int) := by omega
  have em : (l : Int) % m.c.ba = ((l % m.nb : Nat) : Int) := by rw [← hnb]; omega
  have hb0 : (m.c.ba == 0) = false := by rw [beq_eq_false_iff_ne]; omega
  have hba : 1 ≤ m.c.ba := by omega
  have hl32 : (l : Int) ≤ 32 := by omega
  have HW := Lib.hid (show m.wd (2 * l) = (m.got l).wd (2 * l) ∧ m.wd (2 * l + 1) = (m.got l).wd (2 * l + 1) from ⟨rfl, rfl⟩)
  have HLT := Lib.hid (show 2 * l + 1 < 2 * (m.got l).n ∧ (m.got l).n = m.n from ⟨by show _ < 2 * m.n; omega, rfl⟩)
  have HBD := Lib.hid h.bd
  have HSZ := Lib.hid h.sz
  have i4 : ((l % m.nb : Nat) : Int) < 4 := by omega
  clear h hn hnb n1 n4 hlt hi4 hl
  generalize m.rd (l % m.nb) = c at *
  generalize l % m.nb = i at *
  go_enter Tryd.func59, Tryd.ntmps59
  go_wp2_with fail
  go_region
  obtain ⟨W1, hW1⟩ : ∃ W1, W1 = ((w.setCell ⟨p, 2 + i, none⟩ (.int .i64 (wrap64 (c + 1)))).alloc (.cells #[.int .i64 0, .int .i64 0] 25)).drew := ⟨_, rfl⟩
  have hX1 : W1.heap[w.heap.size]? = some (.cells #[.int .i64 0, .int .i64 0] 25 (0, 0)) := by rw [hW1]; exact alNew (by simp)
  have hR1 : Rg lo hi w W1 := by rw [hW1]; exact (Rg.set (o := 2 + i) (bd := none) w (.int .i64 (wrap64 (c + 1))) HBD.out.1 HBD.out.2.1).trans (Rg.of_below (ext_drew (ext_alloc _ (Below.refl _ _))))
  have hS1 : Rk W1 lo hi p q cap (m.got l) := by rw [hW1]; exact HS.out.ext (ext_drew (ext_alloc _ (Below.refl _ _)))
  rw [← hW1]
  clear hW1 k0 k1 kr fr em hb0
  obtain ⟨k0, _⟩ := hS1.sl
  rw [HLT.out.2] at k0
  have y0 := hS1.wd (2 * l) (by have := HLT.out.1; omega)
  have y1 := hS1.wd (2 * l + 1) (by have := HLT.out.1; omega)
  rw [← HW.out.1] at y0
  rw [← HW.out.2] at y1
  obtain ⟨hp, hq⟩ := hS1.lt
  obtain ⟨x0, x1, f0, f1, xl⟩ := pair_at hX1
  have HX1 := Lib.hid hX1
  have HR1 := Lib.hid hR1
  have HS1 := Lib.hid hS1
  clear hX1 hR1 hS1
  go_wp2_with fail
  go_region
  go_wp2_with fail
  have hX2 := set2_at (.int .i64 (m.wd (2 * l))) (.int .i64 (m.wd (2 * l + 1))) HX1.out
  have hS2 := HS1.out.rg (Rg.set (lo := w.heap.size) (hi := w.heap.size + 1) (o := 0) (bd := none) W1 (.int .i64 (m.wd (2 * l))) (Nat.le_refl _) (by omega)) (.inl HSZ.out) |>.rg (Rg.set (lo := w.heap.size) (hi := w.heap.size + 1) (o := 1) (bd := none) _ (.int .i64 (m.wd (2 * l + 1))) (Nat.le_refl _) (by omega)) (.inl HSZ.out)
  have hR2 := (HR1.out.box (o := 0) (.int .i64 (m.wd (2 * l))) (Nat.le_refl _)).box (o := 1) (.int .i64 (m.wd (2 * l + 1))) (Nat.le_refl _)
  generalize (W1.setCell ⟨w.heap.size, 0, none⟩ (.int .i64 (m.wd (2 * l)))).setCell ⟨w.heap.size, 1, none⟩ (.int .i64 (m.wd (2 * l + 1))) = W2 at *
  have hX3 : W2.drew.heap[w.heap.size]? = _ := hX2
  obtain ⟨W3, hW3⟩ : ∃ W3, W3 = W2.drew := ⟨_, rfl⟩
  have hb3 : Below W2.heap.size W2 W3 := by rw [hW3]; exact ext_drew (Below.refl _ _)
  rw [← hW3] at hX3 ⊢
  clear x0 x1 hW3 y0 y1
  obtain ⟨x0, x1, _, _, _⟩ := pair_at hX3
  (try simp only [Exit.inBlock, Exit.then]); refine bodyPost_ret (by simp [results, Tryd.results59, go_sem, x0, x1]; try rfl) rfl ?_
  exact ⟨rfl, ⟨q, cap, hS2.ext hb3⟩, hR2.trans (Rg.of_below hb3)⟩

set_option maxHeartbeats 1000000 in
theorem rwrite02_no {w : World} {lo hi p : Nat} {m : Mm} (h : Rm w lo hi p m) (x a b : Int) (hx : x < 0 ∨ (m.n : Int) ≤ x) :
    Calls Tryd.prog 61 #[.pointer (some ⟨p, 0, none⟩), .int .i64 x, .agg #[.int .i64 a, .int .i64 b]] w fun e w' => e = .returned (.bool false) ∧ Below w.heap.size w w' := by
  obtain ⟨q, cap, h⟩ := h
  have hn := (n_gr h.ok).2.2
  obtain ⟨k0, k1⟩ := h.sl
  obtain ⟨hp, hq⟩ := h.lt
  clear h
  by_cases h0 : x < 0
  · have e0 : decide (x < 0) = true := by simpa using h0
    go_enter Tryd.func61, Tryd.ntmps61
    go_wp2_with fail
    go_ret
    exact ⟨rfl, (by repeat (with_reducible first | exact Below.refl _ _ | assumption | (refine ext_next (by assumption) ?_) | apply ext_alloc | apply ext_past | apply ext_drew | apply ext_drewN))⟩
  · have e0 : decide (x < 0) = false := by simpa using h0
    have e2 : (2 * m.n : Nat) / (2 : Int) = (m.n : Int) := by omega
    have e1 : decide (x ≥ (m.n : Int)) = true := by simp; omega
    have hN : ((2 * m.n : Nat) : Int) ≤ 64 := by omega
    clear hx hn
    generalize 2 * m.n = N at *
    go_enter Tryd.func61, Tryd.ntmps61
    go_wp2_with fail
    go_ret
    exact ⟨rfl, (by repeat (with_reducible first | exact Below.refl _ _ | assumption | (refine ext_next (by assumption) ?_) | apply ext_alloc | apply ext_past | apply ext_drew | apply ext_drewN))⟩
theorem Rk.bd2 {w : World} {lo hi p q cap : Nat} {m : Mm} (h : Rk w lo hi p q cap m) : lo ≤ q ∧ q < hi := ⟨h.bd.2.2.1, h.bd.2.2.2.1⟩
set_option maxHeartbeats 4000000 in
theorem rwrite02_ok {w : World} {lo hi p : Nat} {m : Mm} (h : Rm w lo hi p m) (l : Nat) (hl : l < m.n) (a b : Int) :
    Calls Tryd.prog 61 #[.pointer (some ⟨p, 0, none⟩), .int .i64 l, .agg #[.int .i64 a, .int .i64 b]] w fun e w' => e = .returned (.bool true) ∧ Rm w' lo hi p (m.put l a b) ∧ Rg lo hi w w' := by
  obtain ⟨q, cap, h⟩ := h
  have hn := (n_gr h.ok).2.2
  obtain ⟨n1, n4, hnb⟩ := Mm.nb_of h.ok
  have hlt : l % m.nb < m.nb := Nat.mod_lt _ n1
  have hi4 : l % m.nb < 4 := by omega
  have HS := Lib.hid (show Rk (w.setCell ⟨p, 6 + l % m.nb, none⟩ (.int .i64 (wrap64 (m.wr (l % m.nb) + 1)))) lo hi p q cap { m with wr := updN m.wr (l % m.nb) (wrap64 (m.wr (l % m.nb) + 1)) } from h.setU (l % m.nb) hi4 (wrap64 (m.wr (l % m.nb) + 1)))
  have HM : Hid (∀ W W' : World, Rk W lo hi p q cap { m with wr := updN m.wr (l % m.nb) (wrap64 (m.wr (l % m.nb) + 1)) } → W' = (W.setCell ⟨q, 2 * l, none⟩ (.int .i64 a)).setCell ⟨q, 2 * l + 1, none⟩ (.int .i64 b) → Rk W' lo hi p q cap (m.put l a b)) := Lib.hid fun W W' hW e => by
    subst e
    exact (hW.setW (2 * l) a).setW (2 * l + 1) b
  obtain ⟨k0, k1⟩ := h.sl
  have kr := h.wr (l % m.nb) hi4
  have fr := h.fp (6 + l % m.nb)
  obtain ⟨hp, hq⟩ := h.lt
  have e0 : decide ((l : Int) < 0) = false := by simp
  have e2 : (2 * m.n : Nat) / (2 : Int) = (m.n : Int) := by omega
  have e1 : decide ((l : Int) ≥ (m.n : Int)) = false := by simp; omega
  have hN : ((2 * m.n : Nat) : Int) ≤ 64 := by omega
  have hNl : 2 * (l : Int) + 1 < ((2 * m.n : Nat) : Int) := by omega
  have hNl0 : 2 * (l : Int) < ((2 * m.n : Nat) : Int) := by omega
  have em : (l : Int) % m.c.ba = ((l % m.nb : Nat) : Int) := by rw [← hnb]; omega
  have hb0 : (m.c.ba == 0) = false := by rw [beq_eq_false_iff_ne]; omega
  have hba : 1 ≤ m.c.ba := by omega
  have hl32 : (l : Int) ≤ 32 := by omega
  have HLT := Lib.hid (show 2 * l + 1 < 2 * m.n by omega)
  have HBD := Lib.hid h.bd
  have i4 : ((l % m.nb : Nat) : Int) < 4 := by omega
  clear h hn hnb n1 n4 hlt hi4 hl
  generalize m.put l a b = mm at *
  generalize hmw : ({ m with wr := updN m.wr (l % m.nb) (wrap64 (m.wr (l % m.nb) + 1)) } : Mm) = mw at *
  have HWN : Hid (mw.n = m.n) := Lib.hid (by rw [← hmw]; rfl)
  clear hmw
  generalize m.wr (l % m.nb) = c at *
  generalize l % m.nb = i at *
  go_enter Tryd.func61, Tryd.ntmps61
  go_wp2_with fail
  go_region
  obtain ⟨W1, hW1⟩ : ∃ W1, W1 = ((w.setCell ⟨p, 6 + i, none⟩ (.int .i64 (wrap64 (c + 1)))).alloc (.cells #[.int .i64 a, .int .i64 b] 25)).drew := ⟨_, rfl⟩
  have hX1 : W1.heap[w.heap.size]? = some (.cells #[.int .i64 a, .int .i64 b] 25 (0, 0)) := by rw [hW1]; exact alNew (by simp)
  have hR1 : Rg lo hi w W1 := by rw [hW1]; exact (Rg.set (o := 6 + i) (bd := none) w (.int .i64 (wrap64 (c + 1))) HBD.out.1 HBD.out.2.1).trans (Rg.of_below (ext_drew (ext_alloc _ (Below.refl _ _))))
  have hS1 : Rk W1 lo hi p q cap mw := by rw [hW1]; exact HS.out.ext (ext_drew (ext_alloc _ (Below.refl _ _)))
  rw [← hW1]
  clear hW1 k0 k1 kr fr em hb0
  obtain ⟨k0, _⟩ := hS1.sl
  rw [HWN.out] at k0
  have y0 := hS1.wd (2 * l) (by have := HLT.out; have := HWN.out; omega)
  have y1 := hS1.wd (2 * l + 1) (by have := HLT.out; have := HWN.out; omega)
  have fq := hS1.fq
  obtain ⟨hp, hq⟩ := hS1.lt
  have hne : q ≠ w.heap.size := by have := HS.out.lt.2; simp at this; omega
  have hnp : q ≠ p := fun e => HBD.out.2.2.2.2 e.symm
  obtain ⟨x0, x1, f0, f1, xl⟩ := pair_at hX1
  have HR1 := Lib.hid hR1
  have HS1 := Lib.hid hS1
  clear hX1 hR1 hS1
  go_wp2_with fail
  go_region
  go_wp2_with fail
  go_region
  go_wp2_with fail
  go_ret
  have hS2 := HM.out _ _ HS1.out rfl
  have hR2 := (HR1.out.trans (Rg.set (o := 2 * l) (bd := none) W1 (.int .i64 a) HBD.out.2.2.1 HBD.out.2.2.2.1)).trans (Rg.set (o := 2 * l + 1) (bd := none) _ (.int .i64 b) HBD.out.2.2.1 HBD.out.2.2.2.1)
  exact ⟨rfl, ⟨q, cap, hS2.ext (ext_drew (ext_drew (Below.refl _ _)))⟩, hR2.trans (Rg.of_below (ext_drew (ext_drew (Below.refl _ _))))⟩

theorem zeros_two {m : Mm} (h : m.c.ok) (g : Nat) (hg : (g : Int) < m.c.gr) : m.zeros (lnN (lns m.c g)) = (m.put (2 * g) 0 0).put (2 * g + 1) 0 0 := by
  have hh : has m.c (g : Int) := ⟨h, by omega, hg⟩
  have e : lns m.c (g : Int) = [⟨(g : Int) * 2, hh, .inl rfl⟩, ⟨(g : Int) * 2 + 1, hh, .inr rfl⟩] := by unfold lns; rw [dif_pos hh]
  have e2 : lnN (lns m.c (g : Int)) = [((g : Int) * 2).toNat, ((g : Int) * 2 + 1).toNat] := by rw [e]; rfl
  rw [e2, show ((g : Int) * 2).toNat = 2 * g by omega, show ((g : Int) * 2 + 1).toNat = 2 * g + 1 by omega]
  rfl
set_option maxHeartbeats 1000000 in
theorem rscrub02_no {w : World} {lo hi p : Nat} {m : Mm} (h : Rm w lo hi p m) (x : Int) (hx : x < 0 ∨ m.c.gr ≤ x) :
    Calls Tryd.prog 62 #[.pointer (some ⟨p, 0, none⟩), .int .i64 x] w fun e w' => e = .returned (.bool false) ∧ Below w.heap.size w w' := by
  obtain ⟨q, cap, h⟩ := h
  obtain ⟨hg, _, hn⟩ := n_gr h.ok
  obtain ⟨k0, k1⟩ := h.sl
  obtain ⟨hp, hq⟩ := h.lt
  clear h
  by_cases h0 : x < 0
  · have e0 : decide (x < 0) = true := by simpa using h0
    clear hg
    go_enter Tryd.func62, Tryd.ntmps62
    go_wp2_with fail
    go_ret
    exact ⟨rfl, (by repeat (with_reducible first | exact Below.refl _ _ | assumption | (refine ext_next (by assumption) ?_) | apply ext_alloc | apply ext_past | apply ext_drew | apply ext_drewN))⟩
  · have e0 : decide (x < 0) = false := by simpa using h0
    have e2 : (2 * m.n : Nat) / (4 : Int) = m.c.gr := by omega
    have e1 : decide (x ≥ m.c.gr) = true := by simp; omega
    have hN : ((2 * m.n : Nat) : Int) ≤ 64 := by omega
    clear hx hn hg
    generalize 2 * m.n = N at *
    go_enter Tryd.func62, Tryd.ntmps62
    go_wp2_with fail
    go_ret
    exact ⟨rfl, (by repeat (with_reducible first | exact Below.refl _ _ | assumption | (refine ext_next (by assumption) ?_) | apply ext_alloc | apply ext_past | apply ext_drew | apply ext_drewN))⟩
set_option maxHeartbeats 1000000 in
theorem rscrub02_ok {w : World} {lo hi p : Nat} {m : Mm} (h : Rm w lo hi p m) (g : Nat) (hg : (g : Int) < m.c.gr) :
    Calls Tryd.prog 62 #[.pointer (some ⟨p, 0, none⟩), .int .i64 g] w fun e w' => e = .returned (.bool true) ∧ Rm w' lo hi p ((m.put (2 * g) 0 0).put (2 * g + 1) 0 0) ∧ Rg lo hi w w' := by
  have H := Lib.hid h
  obtain ⟨q, cap, h⟩ := h
  obtain ⟨hgr, _, hn⟩ := n_gr h.ok
  obtain ⟨k0, k1⟩ := h.sl
  obtain ⟨hp, hq⟩ := h.lt
  have hg0 : 2 * g + 1 < m.n := by omega
  have H1 := Lib.hid (rwrite02_ok H.out (2 * g) (by omega) 0 0)
  have HW := Lib.hid (fun (w1 : World) (h1 : Rm w1 lo hi p (m.put (2 * g) 0 0)) => rwrite02_ok h1 (2 * g + 1) (by show _ < m.n; exact hg0) 0 0)
  have e0 : decide ((g : Int) < 0) = false := by simp
  have e2 : (2 * m.n : Nat) / (4 : Int) = m.c.gr := by omega
  have e1 : decide ((g : Int) ≥ m.c.gr) = false := by simp; omega
  have hN : ((2 * m.n : Nat) : Int) ≤ 64 := by omega
  have hg32 : (g : Int) ≤ 16 := by omega
  rw [show ((2 * g : Nat) : Int) = 2 * (g : Int) by omega] at H1
  rw [show ((2 * g + 1 : Nat) : Int) = 2 * (g : Int) + 1 by omega] at HW
  clear h hgr hn hg hg0 H
  go_enter Tryd.func62, Tryd.ntmps62
  generalize 2 * m.n = N at *
  go_wp2_with fail
  refine H1.out.mono ?_
  rintro e w1 ⟨rfl, h1, hr⟩
  have HR := Lib.hid hr
  have H2 := Lib.hid (HW.out _ h1)
  clear h1 hr
  go_wp2_with fail
  refine H2.out.mono ?_
  rintro e w2 ⟨rfl, h1, hr⟩
  have HR2 := Lib.hid (And.intro h1 (HR.out.trans hr))
  clear h1 hr
  go_wp2_with fail
  go_ret
  exact ⟨rfl, HR2.out⟩
set_option maxHeartbeats 2000000 in
theorem rcopy02_ok {w : World} {lo hi p : Nat} {m : Mm} (h : Rm w lo hi p m) :
    Calls Tryd.prog 27 #[.pointer (some ⟨p, 0, none⟩)] w fun e w' => ∃ p', e = .returned (.pointer (some ⟨p', 0, none⟩)) ∧ Rm w' w.heap.size w'.heap.size p' m ∧ Below w.heap.size w w' := by
  obtain ⟨q, cap, h⟩ := h
  obtain ⟨i0, hi0, hz0, hz1, hz2⟩ := info_parts info_i02
  have H := Lib.hid h
  obtain ⟨_, hn1, hn⟩ := n_gr h.ok
  obtain ⟨k0, k1⟩ := h.sl
  have r0 : w.cell? ⟨p, 2, none⟩ = some (.int .i64 (m.rd 0)) := h.rd 0 (by omega)
  have r1 : w.cell? ⟨p, 3, none⟩ = some (.int .i64 (m.rd 1)) := h.rd 1 (by omega)
  have r2 : w.cell? ⟨p, 4, none⟩ = some (.int .i64 (m.rd 2)) := h.rd 2 (by omega)
  have r3 : w.cell? ⟨p, 5, none⟩ = some (.int .i64 (m.rd 3)) := h.rd 3 (by omega)
  have u0 : w.cell? ⟨p, 6, none⟩ = some (.int .i64 (m.wr 0)) := h.wr 0 (by omega)
  have u1 : w.cell? ⟨p, 7, none⟩ = some (.int .i64 (m.wr 1)) := h.wr 1 (by omega)
  have u2 : w.cell? ⟨p, 8, none⟩ = some (.int .i64 (m.wr 2)) := h.wr 2 (by omega)
  have u3 : w.cell? ⟨p, 9, none⟩ = some (.int .i64 (m.wr 3)) := h.wr 3 (by omega)
  obtain ⟨hp, hq⟩ := h.lt
  clear h
  go_enter Tryd.func27, Tryd.ntmps27
  go_wp2_with fail
  go_region
  go_wp2_with fail
  obtain ⟨W1, hW1⟩ : ∃ W1, W1 = (w.alloc (.cells #[.slice none 0 0, .int .i64 m.c.ba, .int .i64 (m.rd 0), .int .i64 (m.rd 1), .int .i64 (m.rd 2), .int .i64 (m.rd 3), .int .i64 (m.wr 0), .int .i64 (m.wr 1), .int .i64 (m.wr 2), .int .i64 (m.wr 3)] 62)).drew := ⟨_, rfl⟩
  have hb1 : Below w.heap.size w W1 := by rw [hW1]; exact ext_drew (ext_alloc _ (Below.refl _ _))
  have hX1 : W1.heap[w.heap.size]? = some (.cells (tab 10 (refV m (.slice none 0 0))).toArray 62 (0, 0)) := by rw [hW1]; exact alNew rfl
  have H1 := Lib.hid (H.out.ext hb1)
  have HB1 := Lib.hid hb1
  have HX1 := Lib.hid hX1
  rw [← hW1]
  clear hW1 k0 k1 r0 r1 r2 r3 u0 u1 u2 u3 hb1 hp hq
  obtain ⟨k0, k1⟩ := H1.out.sl
  obtain ⟨hp, hq⟩ := H1.out.lt
  have xl := lt_of hX1
  have x0 : W1.cell? ⟨w.heap.size, 0, none⟩ = some (.slice none 0 0) := by simp only [World.cell?, hX1]; rfl
  have xf : W1.drew.frozen? ⟨w.heap.size, 0, none⟩ = false := by show W1.frozen? _ = false; simp [World.frozen?, hX1]
  have hN : Hid (2 * m.n ≤ 1000) := Lib.hid (by omega)
  have HN0 : Hid (1 ≤ 2 * m.n) := Lib.hid (by omega)
  clear hX1
  generalize hMN : 2 * m.n = N at *
  have HMN := Lib.hid hMN
  clear hMN
  go_region_law (refine step_append_full _ rfl _ _ 59 rfl W1.heap.size 3 i0 (.int .i64 0) 1 8 Tryd.underlying59 hi0 hz0 hz1 hz2 rfl (by decide) (.slice none 0 0) 0 [] rfl (World.ownsRow_nil _ _ _ _) (some ⟨q, 0, none⟩) N cap (tab N (wordV m.wd)) (by simp [Act.eval]) (fun e => by cases e) (by simp) (fun ad e => by cases e; have := own_full H1.out.row; rw [HMN.out] at this; exact this) (tab_one fun _ _ => rfl) (by have := hN.out; unfold maxLen; omega) (by have := hN.out; omega) (Nat.le_refl _) ?_; intro A3 c3 w2 h3 ho hg hf3; have hq3 := hg.block w.heap.size xl (by simp [Value.ownBlock]); have q0 := (World.cell?_of_block (a := ⟨w.heap.size, 0, none⟩) hq3).trans x0; have qf : w2.frozen? ⟨w.heap.size, 0, none⟩ = false := (World.frozen?_of_block (a := ⟨w.heap.size, 0, none⟩) hq3).trans xf; have HQ := Lib.hid (And.intro ho (And.intro hg hf3)); have HX2 := Lib.hid (hq3.trans HX1.out); clear ho hg hf3 hq3)
  all_goals
    go_wp2_with fail
    go_ret
    obtain ⟨ho, hg, hf3⟩ := HQ.out
    obtain ⟨g, c, hv⟩ := form_pos ho (by have := HN0.out; omega)
    obtain ⟨rfl, _, rfl⟩ := Value.slice.inj hv
    refine ⟨w.heap.size, rfl, ?_⟩
    have hgl : W1.heap.size ≤ g := own_ge ho rfl
    have hg2 : g < w2.heap.size := lt_own ho rfl
    have hgs := hg.size
    have hbs := HB1.out.size
    have e1 := Joins.block_setCell (i := 0) HX2.out (.slice (some ⟨g, 0, none⟩) N c3)
    have hset := tab_set (n := 10) (i := 0) (h := refV m (.slice none 0 0)) (g := refV m (.slice (some ⟨g, 0, none⟩) N c3)) (v := .slice (some ⟨g, 0, none⟩) N c3) rfl (fun k _ hk => by simp [refV, hk])
    rw [List.setIfInBounds_toArray, hset] at e1
    refine ⟨⟨g, c3, H.out.ok, ?_, ?_, ⟨Nat.le_refl _, by have := lt_of HX2.out; simpa using this, by omega, by simpa using hg2, by have := lt_of HX1.out; omega⟩, Nat.le_refl _⟩, ?_⟩
    · rw [HMN.out]
      exact e1
    · rw [HMN.out]
      have := row_keep (w' := w2.setCell ⟨w.heap.size, 0, none⟩ (.slice (some ⟨g, 0, none⟩) N c3)) ho (fun k hk => by obtain rfl := Option.some.inj hk; exact Below.heap_setCell _ _ _ _ (by show g ≠ w.heap.size; have := lt_of HX1.out; omega))
      simpa using row_mono this (by omega)
    · exact ((ext_drew HB1.out).grown (w' := w2) hg HB1.out.size (fun k e => by cases e)).setCell (p := ⟨w.heap.size, 0, none⟩) (Nat.le_refl _) _

end Go.Proofs.YtkfnjpmigifomaaDoor
