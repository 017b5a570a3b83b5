/- What this text holds: a memory's Write and Scrub. Condition: the table of limits holds what its initialiser lays. -/
import Derived.Test.YtkfnjpmigifomaaDoorBankB
namespace Go.Proofs.YtkfnjpmigifomaaDoor
open Go.RowKit

theorem cell_at {w : World} {b : Nat} {cs : Array Value} {t : TypeId} {fr : Nat × Nat} (h : w.heap[b]? = some (.cells cs t fr)) (i : Nat) (v : Value) (hv : cs[i]? = some v) : w.cell? ⟨b, i, none⟩ = some v := by
  simp only [World.cell?, h]
  exact hv
/-- A memory behind a Write. -/
def Mm.put (m : Mm) (l : Nat) (x y : Int) : Mm := { m with wr := updN m.wr (l % m.nb) (wrap64 (m.wr (l % m.nb) + 1)), wd := updN (updN m.wd (2 * l) x) (2 * l + 1) y }
set_option maxHeartbeats 1600000 in
theorem bwrite_ok {w : World} {lo hi p : Nat} {m : Mm} (h : Bm w lo hi p m) (hL : Lims w) (l : Nat) (hl : l < m.n) (x y : Int) :
    Calls Tryd.prog 16 #[.pointer (some ⟨p, 0, none⟩), .int .i64 l, .agg #[.int .i64 x, .int .i64 y]] w fun e w' => e = .returned (.int .i64 0) ∧ Bm w' lo hi p (m.put l x y) ∧ Rg lo hi w w' := by
  obtain ⟨q, R, h⟩ := h
  obtain ⟨n1, n4, hnb⟩ := Mm.nb_of h.ok
  have hlt : l % m.nb < m.nb := Nat.mod_lt _ n1
  obtain ⟨b, cap, hR, h2, h3, hjc, hf, h6, h7⟩ := h.line l hl
  have HF := Lib.hid (fun w1 (hb : Below w.heap.size w w1) => bfind_ok (h.ext hb) (Lims.ext hb hL) l hl)
  have HK := Lib.hid (fun w1 (hb : Below w.heap.size w w1) => (h.ext hb).bank _ hlt)
  have HQ := Lib.hid (fun w1 (hb : Below w.heap.size w w1) => (h.ext hb).free)
  have HN := Lib.hid (fun w1 (hb : Below w.heap.size w w1) => (h.ext hb).lt)
  have HS := Lib.hid (fun w1 (hb : Below w.heap.size w w1) => show Bm (((w1.setCell ⟨q, l % m.nb * 3 + 1, none⟩ (.int .i64 (wrap64 (m.wr (l % m.nb) + 1)))).setCell ⟨b, l / m.nb * 2, none⟩ (.int .i64 x)).setCell ⟨b, l / m.nb * 2 + 1, none⟩ (.int .i64 y)) lo hi p (m.put l x y) from
    ⟨q, R, (((h.ext hb).setU (l % m.nb) (wrap64 (m.wr (l % m.nb) + 1))).setW l hl hR 0 (by omega) x).setW l hl hR 1 (by omega) y⟩)
  have HT := Lib.hid (show lo ≤ b ∧ b < hi ∧ lo ≤ q ∧ q < hi from ⟨h2, h3, h.bd.2.2.1, h.bd.2.2.2.1⟩)
  have hbl : b < w.heap.size := by have := h.sz; omega
  have hqb : q ≠ b := fun e => (h.up _ hlt b (by rw [hR]; rfl)).2.2.1 e.symm
  rw [hR] at HK
  clear h hL hl hR hnb h2 h3 n1 n4
  generalize m.put l x y = mm at HS ⊢
  generalize cntB m.nb m.n (l % m.nb) = N at *
  generalize m.wr (l % m.nb) = c at *
  generalize l % m.nb = i at *
  generalize l / m.nb = j at *
  go_enter Tryd.func16, Tryd.ntmps16
  go_wp2_with fail
  refine (HF.out _ (ext_alloc _ (Below.refl _ _))).mono ?_
  rintro e w1 ⟨rfl, hb⟩
  have HB := Lib.hid (ext_trans (ext_alloc _ (Below.refl _ _)) hb)
  obtain ⟨_, k1, k2⟩ := HK.out w1 HB.out
  obtain ⟨_, hq⟩ := HN.out w1 HB.out
  have hfq := HQ.out w1 HB.out
  have hbx := (hb.block w.heap.size (by simp)).trans (alNew rfl)
  have x0 := cell_at hbx 0 (.int .i64 x) rfl
  have x1 := cell_at hbx 1 (.int .i64 y) rfl
  have hxl := lt_of hbx
  have y0 := (HB.out.cell (p := ⟨b, j * 2, none⟩) hbl).trans h6
  have y1 := (HB.out.cell (p := ⟨b, j * 2 + 1, none⟩) hbl).trans h7
  have hf0 := fun o => (HB.out.frozen (p := ⟨b, o, none⟩) hbl).trans (hf o)
  have hbq : b ≠ q := fun e => hqb e.symm
  have hnx : w.heap.size ≠ q := by have := (HN.out w (Below.refl _ _)).2; omega
  have hbl1 : b < w1.heap.size := Nat.lt_of_lt_of_le hbl HB.out.size
  clear hb hbx h6 h7 hf
  go_wp2_with fail
  go_region
  go_wp2_with fail
  go_ret
  refine ⟨rfl, (HS.out w1 HB.out).ext (ext_drew (Below.refl _ _)), ?_⟩
  exact ((((Rg.of_below HB.out).trans (Rg.set _ _ HT.out.2.2.1 HT.out.2.2.2)).trans (Rg.set _ _ HT.out.1 HT.out.2.1)).trans (Rg.set _ _ HT.out.1 HT.out.2.1)).trans (Rg.of_below (ext_drew (Below.refl _ _)))

end Go.Proofs.YtkfnjpmigifomaaDoor
