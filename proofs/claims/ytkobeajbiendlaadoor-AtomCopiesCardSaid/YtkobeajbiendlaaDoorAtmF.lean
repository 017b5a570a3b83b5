/- What this text holds: a machine's Step: what a core does by itself. Condition: the table of limits holds what its initialiser lays. -/
import Derived.Test.YtkobeajbiendlaaDoorAtD
namespace Go.Proofs.YtkobeajbiendlaaDoor
open Go.RowKit

section
variable {w : World} {lo hi p qs qo pm lm hm cs co : Nat} {P : Nat → Value} {M : Ma}
set_option maxRecDepth 100000 in
set_option maxHeartbeats 2000000 in
theorem astep_fence (h : Mk w lo hi p qs qo pm lm hm cs co P M) (hL : Lims w) (i k : Nat) (busy : Bool) (a b' c : Int) (hi' : i < M.nc) (ha : (M.se i).a = k) (hk : k < (M.se i).ps.length) (hl : (M.se i).ps.length ≤ 32) (ho : (M.se i).ov = false) (hx : atI (M.se i).ps k = ⟨6, a, b', c⟩)  :
    Calls Tryd.prog 34 #[.pointer (some ⟨p, 0, none⟩), .int .i64 i, .bool busy] w fun e w' => e = .returned (.tuple #[.agg #[.int .i64 i, .int .i64 k, .int .i64 6, .int .i64 (M.se i).wo, .int .i64 0, .int .i64 0, .int .i64 0], .int .i64 0]) ∧ Mk w' lo hi p qs qo pm lm hm cs co P (M.turn i ((k : Int) + 1)) ∧ Rg lo hi w w' := by
  have H := Lib.hid h
  have HL := Lib.hid hL
  obtain ⟨t0, t1, t2, t3, t4, t5, t6, t7, t8, t9⟩ := ten_at h.top
  obtain ⟨hp, hq, _⟩ := h.lt
  have hn := Ma.n_of h.mm.ok
  have hI := inB_yes (l := 0) (m := (M.nc : Int) - 1) (x := i) (by omega)
  have hn1 : 1 ≤ (M.nc : Int) := by omega
  have hn2 : (M.nc : Int) ≤ 4 := by omega
  have hii : (i : Int) < (M.nc : Int) := by omega
  have hi4 : (i : Int) < 4 := by omega
  obtain ⟨A, cap, hP, hS, _⟩ := (h.pg i hi').1
  obtain ⟨b, off, hA, hbl, hcs⟩ := hS (by omega)
  subst hA
  have hck := hcs k hk
  rw [hx] at hck
  dsimp only at hck
  obtain ⟨y0, y1, y2, y3⟩ := hck
  clear hcs
  have hkl : (k : Int) < ((M.se i).ps.length : Int) := by omega
  have hk32 : (k : Int) ≤ 32 := by omega
  have HC := Lib.hid (fun (W : World) (hb : Below w.heap.size w W) => (h.ext hb).sc i hi')
  rw [ha, ho, hP] at HC
  have HY := Lib.hid (And.intro hbl (And.intro y0 (And.intro y1 (And.intro y2 y3))))
  have HI := Lib.hid (And.intro hi' (And.intro hk hl))
  clear h hL hn hi' ha hk hl ho hx hP hS y0 y1 y2 y3 hbl
  generalize hln : (M.se i).ps.length = ln at *
  have HLN := Lib.hid hln
  clear hln
  go_enter Tryd.func34, Tryd.ntmps34
  go_wp2_with fail
  refine (within_new _ _ _ _ _ _ (by simp)).mono ?_
  rintro e wx ⟨rfl, hw⟩
  rw [hw]
  clear hw
  obtain ⟨w1, hw1⟩ : ∃ W, W = (w.alloc (.cells #[.int .i64 0, .int .i64 0, .int .i64 0, .int .i64 0, .int .i64 0, .int .i64 0, .int .i64 0] 42)).alloc (.cells #[.int .i64 i] 3) := ⟨_, rfl⟩
  have hb1 : Below w.heap.size w w1 := by rw [hw1]; exact (by repeat (with_reducible first | exact Below.refl _ _ | assumption | (refine ext_next (by assumption) ?_) | apply ext_alloc | apply ext_past | apply ext_drew | apply ext_drewN))
  have HR1 : Hid (w1.heap[w.heap.size]? = some (.cells #[.int .i64 0, .int .i64 0, .int .i64 0, .int .i64 0, .int .i64 0, .int .i64 0, .int .i64 0] 42 (0, 0))) := Lib.hid (by rw [hw1]; exact alOld (alNew rfl))
  rw [← hw1]
  have HB1 := Lib.hid hb1
  clear hw1 hb1 t0 t1 t2 t3 t4 t5 t6 t7 t8 t9 hp hq
  obtain ⟨t0, t1, t2, t3, t4, t5, t6, t7, t8, t9⟩ := ten_at (H.out.ext HB1.out).top
  obtain ⟨hp, hq, _⟩ := (H.out.ext HB1.out).lt
  obtain ⟨c4, c5, c6, c7, _⟩ := HC.out _ HB1.out
  have hbl := Nat.lt_of_lt_of_le HY.out.1 HB1.out.size
  have y0 := (HB1.out.cell (p := ⟨b, _, none⟩) HY.out.1).trans HY.out.2.1
  have y1 := (HB1.out.cell (p := ⟨b, _, none⟩) HY.out.1).trans HY.out.2.2.1
  have y2 := (HB1.out.cell (p := ⟨b, _, none⟩) HY.out.1).trans HY.out.2.2.2.1
  have y3 := (HB1.out.cell (p := ⟨b, _, none⟩) HY.out.1).trans HY.out.2.2.2.2
  go_wp2_with fail
  go_region
  obtain ⟨w2, hw2⟩ : ∃ W, W = (w1.alloc (.cells #[.int .i64 6, .int .i64 a, .int .i64 b', .int .i64 c] 36)).drew := ⟨_, rfl⟩
  have hb2 : Below w1.heap.size w1 w2 := by rw [hw2]; exact ext_drew (ext_alloc _ (Below.refl _ _))
  have HX2 : Hid (w2.heap[w1.heap.size]? = some (.cells #[.int .i64 6, .int .i64 a, .int .i64 b', .int .i64 c] 36 (0, 0))) := Lib.hid (by rw [hw2]; exact alNew rfl)
  rw [← hw2]
  have HR2 := Lib.hid ((hb2.block _ (lt_of HR1.out)).trans HR1.out)
  have HB2 := Lib.hid (ext_trans HB1.out hb2)
  clear hw2 hb2 y0 y1 y2 y3 hbl t0 t1 t2 t3 t4 t5 t6 t7 t8 t9 hp hq c4 c5 c6 c7
  obtain ⟨hp, hq, _⟩ := (H.out.ext HB2.out).lt
  obtain ⟨c4, c5, c6, c7, _⟩ := HC.out _ HB2.out
  obtain ⟨x0, x1, x2, x3, xl⟩ := ins_cells (x := ⟨6, a, b', c⟩) HX2.out
  dsimp only at x0 x1 x2 x3
  go_wp2_with fail
  go_region
  obtain ⟨w3, hw3⟩ : ∃ W, W = (w2.alloc (.cells #[.int .i64 i, .int .i64 k, .int .i64 6, .int .i64 (M.se i).wo, .int .i64 0, .int .i64 0, .int .i64 0] 42)).drew := ⟨_, rfl⟩
  have hb3 : Below w2.heap.size w2 w3 := by rw [hw3]; exact ext_drew (ext_alloc _ (Below.refl _ _))
  have HE3 : Hid (w3.heap[w2.heap.size]? = some (.cells #[.int .i64 i, .int .i64 k, .int .i64 6, .int .i64 (M.se i).wo, .int .i64 0, .int .i64 0, .int .i64 0] 42 (0, 0))) := Lib.hid (by rw [hw3]; exact alNew rfl)
  rw [← hw3]
  have HS3 : Hid (Sp w w3 lo hi p qs qo pm lm hm cs co P w1.heap.size w2.heap.size M ⟨6, a, b', c⟩ ⟨i, k, 6, (M.se i).wo, 0, 0, 0⟩) := Lib.hid ⟨H.out.ext (ext_trans HB2.out hb3), HE3.out, (hb3.block _ (lt_of HR2.out)).trans HR2.out, (hb3.block _ (lt_of HX2.out)).trans HX2.out, Rg.of_below (ext_trans HB2.out hb3), H.out.sz, lt_of HR1.out, lt_of HX2.out⟩
  have HB3 := Lib.hid (ext_trans HB2.out hb3)
  clear hw3 hb3 x0 x1 x2 x3 xl hp hq c4 c5 c6 c7 HE3 HR1 HR2 HX2
  obtain ⟨c4, c5, c6, c7, cf⟩ := HC.out _ HB3.out
  generalize w2.heap.size = bE at *
  generalize w1.heap.size = bI at *
  obtain ⟨hp, hq, _⟩ := HS3.out.ma.lt
  obtain ⟨x0, x1, x2, x3, xl⟩ := ins_cells HS3.out.ins
  dsimp only at x0 x1 x2 x3
  obtain ⟨e0, e1, e2, e3, e4, e5, e6, ef, el⟩ := ev_cells HS3.out.ev
  dsimp only at e0 e1 e2 e3 e4 e5 e6
  have cf := (HS3.out.ma.sc i HI.out.1).2.2.2.2
  have hqE : qs ≠ bE := by have := HS3.out.sz; have := HS3.out.ma.bd; omega
  go_wp2_with fail
  refine (aturn HS3.out.ma i HI.out.1 ((k : Int) + 1) (by have := HI.out; omega) (by first | (have := HI.out.2.2; have := HLN.out; omega) | (rw [ps_setReg]; (try dsimp only); have := HI.out.2.2; have := HLN.out; omega) | (rw [ps_setWo]; (try dsimp only); have := HI.out.2.2; have := HLN.out; omega) | (dsimp only; have := HI.out.2.2; have := HLN.out; omega))).mono ?_
  rintro e wt ⟨⟨rr, rfl⟩, hmt, hrt⟩
  have HST := Lib.hid (HS3.out.rgm hrt hmt)
  clear hmt hrt
  (try clear e0 e1 e2 e3 e4 e5 e6 ef el)
  obtain ⟨e0, e1, e2, e3, e4, e5, e6, ef, el⟩ := ev_cells HST.out.ev
  obtain ⟨r0, r1, r2, r3, r4, r5, r6, rf, rl⟩ := ev_cells HST.out.rs
  dsimp only at e0 e1 e2 e3 e4 e5 e6
  go_wp2_with fail
  obtain ⟨w9, hw9⟩ : ∃ W, W = set7 wt w.heap.size (.int .i64 i) (.int .i64 k) (.int .i64 6) (.int .i64 (M.se i).wo) (.int .i64 0) (.int .i64 0) (.int .i64 0) := ⟨_, rfl⟩
  have hbk := set7_blk (.int .i64 i) (.int .i64 k) (.int .i64 6) (.int .i64 (M.se i).wo) (.int .i64 0) (.int .i64 0) (.int .i64 0) HST.out.rs
  have hrg := set7_rg wt w.heap.size (.int .i64 i) (.int .i64 k) (.int .i64 6) (.int .i64 (M.se i).wo) (.int .i64 0) (.int .i64 0) (.int .i64 0)
  rw [← hw9] at hbk hrg
  unfold set7 at hw9
  rw [← hw9]
  clear r0 r1 r2 r3 r4 r5 r6 rf rl hw9
  obtain ⟨r0, r1, r2, r3, r4, r5, r6, rf, rl⟩ := ev_cells hbk
  (try simp only [Exit.inBlock, Exit.then]); refine bodyPost_ret (by simp [results, Tryd.results34, go_sem, r0, r1, r2, r3, r4, r5, r6]; try rfl) rfl ?_
  exact ⟨rfl, HST.out.ma.rgm hrg HST.out.sz.1, HST.out.rg.bx hrg (Nat.le_refl _)⟩

set_option maxRecDepth 100000 in
set_option maxHeartbeats 2000000 in
theorem astep_set (h : Mk w lo hi p qs qo pm lm hm cs co P M) (hL : Lims w) (i k : Nat) (busy : Bool) (ja : Nat) (b' c : Int) (hja : ja < 4) (hi' : i < M.nc) (ha : (M.se i).a = k) (hk : k < (M.se i).ps.length) (hl : (M.se i).ps.length ≤ 32) (ho : (M.se i).ov = false) (hx : atI (M.se i).ps k = ⟨1, ja, b', c⟩)  :
    Calls Tryd.prog 34 #[.pointer (some ⟨p, 0, none⟩), .int .i64 i, .bool busy] w fun e w' => e = .returned (.tuple #[.agg #[.int .i64 i, .int .i64 k, .int .i64 1, .int .i64 (M.se i).wo, .int .i64 0, .int .i64 b', .int .i64 0], .int .i64 0]) ∧ Mk w' lo hi p qs qo pm lm hm cs co P ((M.setReg i ja b').turn i ((k : Int) + 1)) ∧ Rg lo hi w w' := by
  have H := Lib.hid h
  have HL := Lib.hid hL
  obtain ⟨t0, t1, t2, t3, t4, t5, t6, t7, t8, t9⟩ := ten_at h.top
  obtain ⟨hp, hq, _⟩ := h.lt
  have hn := Ma.n_of h.mm.ok
  have hI := inB_yes (l := 0) (m := (M.nc : Int) - 1) (x := i) (by omega)
  have hn1 : 1 ≤ (M.nc : Int) := by omega
  have hn2 : (M.nc : Int) ≤ 4 := by omega
  have hii : (i : Int) < (M.nc : Int) := by omega
  have hi4 : (i : Int) < 4 := by omega
  obtain ⟨A, cap, hP, hS, _⟩ := (h.pg i hi').1
  obtain ⟨b, off, hA, hbl, hcs⟩ := hS (by omega)
  subst hA
  have hck := hcs k hk
  rw [hx] at hck
  dsimp only at hck
  obtain ⟨y0, y1, y2, y3⟩ := hck
  clear hcs
  have hkl : (k : Int) < ((M.se i).ps.length : Int) := by omega
  have hk32 : (k : Int) ≤ 32 := by omega
  have HC := Lib.hid (fun (W : World) (hb : Below w.heap.size w W) => (h.ext hb).sc i hi')
  rw [ha, ho, hP] at HC
  have HY := Lib.hid (And.intro hbl (And.intro y0 (And.intro y1 (And.intro y2 y3))))
  have HI := Lib.hid (And.intro hi' (And.intro hk hl))
  have HJA := Lib.hid hja
  have hja4 : (ja : Int) < 4 := by omega
  clear hja
  clear h hL hn hi' ha hk hl ho hx hP hS y0 y1 y2 y3 hbl
  generalize hln : (M.se i).ps.length = ln at *
  have HLN := Lib.hid hln
  clear hln
  go_enter Tryd.func34, Tryd.ntmps34
  go_wp2_with fail
  refine (within_new _ _ _ _ _ _ (by simp)).mono ?_
  rintro e wx ⟨rfl, hw⟩
  rw [hw]
  clear hw
  obtain ⟨w1, hw1⟩ : ∃ W, W = (w.alloc (.cells #[.int .i64 0, .int .i64 0, .int .i64 0, .int .i64 0, .int .i64 0, .int .i64 0, .int .i64 0] 42)).alloc (.cells #[.int .i64 i] 3) := ⟨_, rfl⟩
  have hb1 : Below w.heap.size w w1 := by rw [hw1]; exact (by repeat (with_reducible first | exact Below.refl _ _ | assumption | (refine ext_next (by assumption) ?_) | apply ext_alloc | apply ext_past | apply ext_drew | apply ext_drewN))
  have HR1 : Hid (w1.heap[w.heap.size]? = some (.cells #[.int .i64 0, .int .i64 0, .int .i64 0, .int .i64 0, .int .i64 0, .int .i64 0, .int .i64 0] 42 (0, 0))) := Lib.hid (by rw [hw1]; exact alOld (alNew rfl))
  rw [← hw1]
  have HB1 := Lib.hid hb1
  clear hw1 hb1 t0 t1 t2 t3 t4 t5 t6 t7 t8 t9 hp hq
  obtain ⟨t0, t1, t2, t3, t4, t5, t6, t7, t8, t9⟩ := ten_at (H.out.ext HB1.out).top
  obtain ⟨hp, hq, _⟩ := (H.out.ext HB1.out).lt
  obtain ⟨c4, c5, c6, c7, _⟩ := HC.out _ HB1.out
  have hbl := Nat.lt_of_lt_of_le HY.out.1 HB1.out.size
  have y0 := (HB1.out.cell (p := ⟨b, _, none⟩) HY.out.1).trans HY.out.2.1
  have y1 := (HB1.out.cell (p := ⟨b, _, none⟩) HY.out.1).trans HY.out.2.2.1
  have y2 := (HB1.out.cell (p := ⟨b, _, none⟩) HY.out.1).trans HY.out.2.2.2.1
  have y3 := (HB1.out.cell (p := ⟨b, _, none⟩) HY.out.1).trans HY.out.2.2.2.2
  go_wp2_with fail
  go_region
  obtain ⟨w2, hw2⟩ : ∃ W, W = (w1.alloc (.cells #[.int .i64 1, .int .i64 ja, .int .i64 b', .int .i64 c] 36)).drew := ⟨_, rfl⟩
  have hb2 : Below w1.heap.size w1 w2 := by rw [hw2]; exact ext_drew (ext_alloc _ (Below.refl _ _))
  have HX2 : Hid (w2.heap[w1.heap.size]? = some (.cells #[.int .i64 1, .int .i64 ja, .int .i64 b', .int .i64 c] 36 (0, 0))) := Lib.hid (by rw [hw2]; exact alNew rfl)
  rw [← hw2]
  have HR2 := Lib.hid ((hb2.block _ (lt_of HR1.out)).trans HR1.out)
  have HB2 := Lib.hid (ext_trans HB1.out hb2)
  clear hw2 hb2 y0 y1 y2 y3 hbl t0 t1 t2 t3 t4 t5 t6 t7 t8 t9 hp hq c4 c5 c6 c7
  obtain ⟨hp, hq, _⟩ := (H.out.ext HB2.out).lt
  obtain ⟨c4, c5, c6, c7, _⟩ := HC.out _ HB2.out
  obtain ⟨x0, x1, x2, x3, xl⟩ := ins_cells (x := ⟨1, ja, b', c⟩) HX2.out
  dsimp only at x0 x1 x2 x3
  go_wp2_with fail
  go_region
  obtain ⟨w3, hw3⟩ : ∃ W, W = (w2.alloc (.cells #[.int .i64 i, .int .i64 k, .int .i64 1, .int .i64 (M.se i).wo, .int .i64 0, .int .i64 0, .int .i64 0] 42)).drew := ⟨_, rfl⟩
  have hb3 : Below w2.heap.size w2 w3 := by rw [hw3]; exact ext_drew (ext_alloc _ (Below.refl _ _))
  have HE3 : Hid (w3.heap[w2.heap.size]? = some (.cells #[.int .i64 i, .int .i64 k, .int .i64 1, .int .i64 (M.se i).wo, .int .i64 0, .int .i64 0, .int .i64 0] 42 (0, 0))) := Lib.hid (by rw [hw3]; exact alNew rfl)
  rw [← hw3]
  have HS3 : Hid (Sp w w3 lo hi p qs qo pm lm hm cs co P w1.heap.size w2.heap.size M ⟨1, ja, b', c⟩ ⟨i, k, 1, (M.se i).wo, 0, 0, 0⟩) := Lib.hid ⟨H.out.ext (ext_trans HB2.out hb3), HE3.out, (hb3.block _ (lt_of HR2.out)).trans HR2.out, (hb3.block _ (lt_of HX2.out)).trans HX2.out, Rg.of_below (ext_trans HB2.out hb3), H.out.sz, lt_of HR1.out, lt_of HX2.out⟩
  have HB3 := Lib.hid (ext_trans HB2.out hb3)
  clear hw3 hb3 x0 x1 x2 x3 xl hp hq c4 c5 c6 c7 HE3 HR1 HR2 HX2
  obtain ⟨c4, c5, c6, c7, cf⟩ := HC.out _ HB3.out
  generalize w2.heap.size = bE at *
  generalize w1.heap.size = bI at *
  obtain ⟨hp, hq, _⟩ := HS3.out.ma.lt
  obtain ⟨x0, x1, x2, x3, xl⟩ := ins_cells HS3.out.ins
  dsimp only at x0 x1 x2 x3
  obtain ⟨e0, e1, e2, e3, e4, e5, e6, ef, el⟩ := ev_cells HS3.out.ev
  dsimp only at e0 e1 e2 e3 e4 e5 e6
  have cf := (HS3.out.ma.sc i HI.out.1).2.2.2.2
  have hqE : qs ≠ bE := by have := HS3.out.sz; have := HS3.out.ma.bd; omega
  have rja := HS3.out.ma.reg i HI.out.1 ja HJA.out
  go_wp2_with fail
  go_region
  obtain ⟨w4, hw4⟩ : ∃ W, W = ((w3.setCell ⟨bE, 5, none⟩ (.int .i64 b')).setCell ⟨qs, i * 8 + ja, none⟩ (.int .i64 b')).drew := ⟨_, rfl⟩
  have HS4 := Lib.hid (((HS3.out.va b').reg i ja HJA.out b').ext (ext_drew (Below.refl _ _)))
  rw [← hw4] at HS4 ⊢
  clear hw4 hp hq x0 x1 x2 x3 xl e0 e1 e2 e3 e4 e5 e6 ef el cf
  (try clear rja)
  (try clear rjb)
  (try clear rjc)
  go_wp2_with fail
  refine (aturn HS4.out.ma i HI.out.1 ((k : Int) + 1) (by have := HI.out; omega) (by first | (have := HI.out.2.2; have := HLN.out; omega) | (rw [ps_setReg]; (try dsimp only); have := HI.out.2.2; have := HLN.out; omega) | (rw [ps_setWo]; (try dsimp only); have := HI.out.2.2; have := HLN.out; omega) | (dsimp only; have := HI.out.2.2; have := HLN.out; omega))).mono ?_
  rintro e wt ⟨⟨rr, rfl⟩, hmt, hrt⟩
  have HST := Lib.hid (HS4.out.rgm hrt hmt)
  clear hmt hrt
  (try clear e0 e1 e2 e3 e4 e5 e6 ef el)
  obtain ⟨e0, e1, e2, e3, e4, e5, e6, ef, el⟩ := ev_cells HST.out.ev
  obtain ⟨r0, r1, r2, r3, r4, r5, r6, rf, rl⟩ := ev_cells HST.out.rs
  dsimp only at e0 e1 e2 e3 e4 e5 e6
  go_wp2_with fail
  obtain ⟨w9, hw9⟩ : ∃ W, W = set7 wt w.heap.size (.int .i64 i) (.int .i64 k) (.int .i64 1) (.int .i64 (M.se i).wo) (.int .i64 0) (.int .i64 b') (.int .i64 0) := ⟨_, rfl⟩
  have hbk := set7_blk (.int .i64 i) (.int .i64 k) (.int .i64 1) (.int .i64 (M.se i).wo) (.int .i64 0) (.int .i64 b') (.int .i64 0) HST.out.rs
  have hrg := set7_rg wt w.heap.size (.int .i64 i) (.int .i64 k) (.int .i64 1) (.int .i64 (M.se i).wo) (.int .i64 0) (.int .i64 b') (.int .i64 0)
  rw [← hw9] at hbk hrg
  unfold set7 at hw9
  rw [← hw9]
  clear r0 r1 r2 r3 r4 r5 r6 rf rl hw9
  obtain ⟨r0, r1, r2, r3, r4, r5, r6, rf, rl⟩ := ev_cells hbk
  (try simp only [Exit.inBlock, Exit.then]); refine bodyPost_ret (by simp [results, Tryd.results34, go_sem, r0, r1, r2, r3, r4, r5, r6]; try rfl) rfl ?_
  exact ⟨rfl, HST.out.ma.rgm hrg HST.out.sz.1, HST.out.rg.bx hrg (Nat.le_refl _)⟩

set_option maxRecDepth 100000 in
set_option maxHeartbeats 2000000 in
theorem astep_add (h : Mk w lo hi p qs qo pm lm hm cs co P M) (hL : Lims w) (i k : Nat) (busy : Bool) (ja jb jc : Nat) (hja : ja < 4) (hjb : jb < 4) (hjc : jc < 4) (hi' : i < M.nc) (ha : (M.se i).a = k) (hk : k < (M.se i).ps.length) (hl : (M.se i).ps.length ≤ 32) (ho : (M.se i).ov = false) (hx : atI (M.se i).ps k = ⟨2, ja, jb, jc⟩)  :
    Calls Tryd.prog 34 #[.pointer (some ⟨p, 0, none⟩), .int .i64 i, .bool busy] w fun e w' => e = .returned (.tuple #[.agg #[.int .i64 i, .int .i64 k, .int .i64 2, .int .i64 (M.se i).wo, .int .i64 0, .int .i64 (wrap64 ((M.se i).r jb + (M.se i).r jc)), .int .i64 0], .int .i64 0]) ∧ Mk w' lo hi p qs qo pm lm hm cs co P ((M.setReg i ja (wrap64 ((M.se i).r jb + (M.se i).r jc))).turn i ((k : Int) + 1)) ∧ Rg lo hi w w' := by
  have H := Lib.hid h
  have HL := Lib.hid hL
  obtain ⟨t0, t1, t2, t3, t4, t5, t6, t7, t8, t9⟩ := ten_at h.top
  obtain ⟨hp, hq, _⟩ := h.lt
  have hn := Ma.n_of h.mm.ok
  have hI := inB_yes (l := 0) (m := (M.nc : Int) - 1) (x := i) (by omega)
  have hn1 : 1 ≤ (M.nc : Int) := by omega
  have hn2 : (M.nc : Int) ≤ 4 := by omega
  have hii : (i : Int) < (M.nc : Int) := by omega
  have hi4 : (i : Int) < 4 := by omega
  obtain ⟨A, cap, hP, hS, _⟩ := (h.pg i hi').1
  obtain ⟨b, off, hA, hbl, hcs⟩ := hS (by omega)
  subst hA
  have hck := hcs k hk
  rw [hx] at hck
  dsimp only at hck
  obtain ⟨y0, y1, y2, y3⟩ := hck
  clear hcs
  have hkl : (k : Int) < ((M.se i).ps.length : Int) := by omega
  have hk32 : (k : Int) ≤ 32 := by omega
  have HC := Lib.hid (fun (W : World) (hb : Below w.heap.size w W) => (h.ext hb).sc i hi')
  rw [ha, ho, hP] at HC
  have HY := Lib.hid (And.intro hbl (And.intro y0 (And.intro y1 (And.intro y2 y3))))
  have HI := Lib.hid (And.intro hi' (And.intro hk hl))
  have HJA := Lib.hid hja
  have hja4 : (ja : Int) < 4 := by omega
  clear hja
  have HJB := Lib.hid hjb
  have hjb4 : (jb : Int) < 4 := by omega
  clear hjb
  have HJC := Lib.hid hjc
  have hjc4 : (jc : Int) < 4 := by omega
  clear hjc
  clear h hL hn hi' ha hk hl ho hx hP hS y0 y1 y2 y3 hbl
  generalize hln : (M.se i).ps.length = ln at *
  have HLN := Lib.hid hln
  clear hln
  go_enter Tryd.func34, Tryd.ntmps34
  go_wp2_with fail
  refine (within_new _ _ _ _ _ _ (by simp)).mono ?_
  rintro e wx ⟨rfl, hw⟩
  rw [hw]
  clear hw
  obtain ⟨w1, hw1⟩ : ∃ W, W = (w.alloc (.cells #[.int .i64 0, .int .i64 0, .int .i64 0, .int .i64 0, .int .i64 0, .int .i64 0, .int .i64 0] 42)).alloc (.cells #[.int .i64 i] 3) := ⟨_, rfl⟩
  have hb1 : Below w.heap.size w w1 := by rw [hw1]; exact (by repeat (with_reducible first | exact Below.refl _ _ | assumption | (refine ext_next (by assumption) ?_) | apply ext_alloc | apply ext_past | apply ext_drew | apply ext_drewN))
  have HR1 : Hid (w1.heap[w.heap.size]? = some (.cells #[.int .i64 0, .int .i64 0, .int .i64 0, .int .i64 0, .int .i64 0, .int .i64 0, .int .i64 0] 42 (0, 0))) := Lib.hid (by rw [hw1]; exact alOld (alNew rfl))
  rw [← hw1]
  have HB1 := Lib.hid hb1
  clear hw1 hb1 t0 t1 t2 t3 t4 t5 t6 t7 t8 t9 hp hq
  obtain ⟨t0, t1, t2, t3, t4, t5, t6, t7, t8, t9⟩ := ten_at (H.out.ext HB1.out).top
  obtain ⟨hp, hq, _⟩ := (H.out.ext HB1.out).lt
  obtain ⟨c4, c5, c6, c7, _⟩ := HC.out _ HB1.out
  have hbl := Nat.lt_of_lt_of_le HY.out.1 HB1.out.size
  have y0 := (HB1.out.cell (p := ⟨b, _, none⟩) HY.out.1).trans HY.out.2.1
  have y1 := (HB1.out.cell (p := ⟨b, _, none⟩) HY.out.1).trans HY.out.2.2.1
  have y2 := (HB1.out.cell (p := ⟨b, _, none⟩) HY.out.1).trans HY.out.2.2.2.1
  have y3 := (HB1.out.cell (p := ⟨b, _, none⟩) HY.out.1).trans HY.out.2.2.2.2
  go_wp2_with fail
  go_region
  obtain ⟨w2, hw2⟩ : ∃ W, W = (w1.alloc (.cells #[.int .i64 2, .int .i64 ja, .int .i64 jb, .int .i64 jc] 36)).drew := ⟨_, rfl⟩
  have hb2 : Below w1.heap.size w1 w2 := by rw [hw2]; exact ext_drew (ext_alloc _ (Below.refl _ _))
  have HX2 : Hid (w2.heap[w1.heap.size]? = some (.cells #[.int .i64 2, .int .i64 ja, .int .i64 jb, .int .i64 jc] 36 (0, 0))) := Lib.hid (by rw [hw2]; exact alNew rfl)
  rw [← hw2]
  have HR2 := Lib.hid ((hb2.block _ (lt_of HR1.out)).trans HR1.out)
  have HB2 := Lib.hid (ext_trans HB1.out hb2)
  clear hw2 hb2 y0 y1 y2 y3 hbl t0 t1 t2 t3 t4 t5 t6 t7 t8 t9 hp hq c4 c5 c6 c7
  obtain ⟨hp, hq, _⟩ := (H.out.ext HB2.out).lt
  obtain ⟨c4, c5, c6, c7, _⟩ := HC.out _ HB2.out
  obtain ⟨x0, x1, x2, x3, xl⟩ := ins_cells (x := ⟨2, ja, jb, jc⟩) HX2.out
  dsimp only at x0 x1 x2 x3
  go_wp2_with fail
  go_region
  obtain ⟨w3, hw3⟩ : ∃ W, W = (w2.alloc (.cells #[.int .i64 i, .int .i64 k, .int .i64 2, .int .i64 (M.se i).wo, .int .i64 0, .int .i64 0, .int .i64 0] 42)).drew := ⟨_, rfl⟩
  have hb3 : Below w2.heap.size w2 w3 := by rw [hw3]; exact ext_drew (ext_alloc _ (Below.refl _ _))
  have HE3 : Hid (w3.heap[w2.heap.size]? = some (.cells #[.int .i64 i, .int .i64 k, .int .i64 2, .int .i64 (M.se i).wo, .int .i64 0, .int .i64 0, .int .i64 0] 42 (0, 0))) := Lib.hid (by rw [hw3]; exact alNew rfl)
  rw [← hw3]
  have HS3 : Hid (Sp w w3 lo hi p qs qo pm lm hm cs co P w1.heap.size w2.heap.size M ⟨2, ja, jb, jc⟩ ⟨i, k, 2, (M.se i).wo, 0, 0, 0⟩) := Lib.hid ⟨H.out.ext (ext_trans HB2.out hb3), HE3.out, (hb3.block _ (lt_of HR2.out)).trans HR2.out, (hb3.block _ (lt_of HX2.out)).trans HX2.out, Rg.of_below (ext_trans HB2.out hb3), H.out.sz, lt_of HR1.out, lt_of HX2.out⟩
  have HB3 := Lib.hid (ext_trans HB2.out hb3)
  clear hw3 hb3 x0 x1 x2 x3 xl hp hq c4 c5 c6 c7 HE3 HR1 HR2 HX2
  obtain ⟨c4, c5, c6, c7, cf⟩ := HC.out _ HB3.out
  generalize w2.heap.size = bE at *
  generalize w1.heap.size = bI at *
  obtain ⟨hp, hq, _⟩ := HS3.out.ma.lt
  obtain ⟨x0, x1, x2, x3, xl⟩ := ins_cells HS3.out.ins
  dsimp only at x0 x1 x2 x3
  obtain ⟨e0, e1, e2, e3, e4, e5, e6, ef, el⟩ := ev_cells HS3.out.ev
  dsimp only at e0 e1 e2 e3 e4 e5 e6
  have cf := (HS3.out.ma.sc i HI.out.1).2.2.2.2
  have hqE : qs ≠ bE := by have := HS3.out.sz; have := HS3.out.ma.bd; omega
  have rja := HS3.out.ma.reg i HI.out.1 ja HJA.out
  have rjb := HS3.out.ma.reg i HI.out.1 jb HJB.out
  have rjc := HS3.out.ma.reg i HI.out.1 jc HJC.out
  go_wp2_with fail
  go_still_tail 18, (by kernel_rfl)
  change wpList _ _ _ _ _ w3.drew
  go_wp2_with fail
  obtain ⟨w4, hw4⟩ : ∃ W, W = (w3.setCell ⟨bE, 5, none⟩ (.int .i64 (wrap64 ((M.se i).r jb + (M.se i).r jc)))).drew := ⟨_, rfl⟩
  have HS4 := Lib.hid ((HS3.out.va (wrap64 ((M.se i).r jb + (M.se i).r jc))).ext (ext_drew (Below.refl _ _)))
  rw [← hw4] at HS4 ⊢
  clear hw4 hp hq x0 x1 x2 x3 xl e0 e1 e2 e3 e4 e5 e6 ef el cf
  (try clear rja)
  (try clear rjb)
  (try clear rjc)
  obtain ⟨hp, hq, _⟩ := HS4.out.ma.lt
  obtain ⟨x0, x1, x2, x3, xl⟩ := ins_cells HS4.out.ins
  dsimp only at x0 x1 x2 x3
  obtain ⟨e0, e1, e2, e3, e4, e5, e6, ef, el⟩ := ev_cells HS4.out.ev
  dsimp only at e0 e1 e2 e3 e4 e5 e6
  have cf := (HS4.out.ma.sc i HI.out.1).2.2.2.2
  have hqE : qs ≠ bE := by have := HS4.out.sz; have := HS4.out.ma.bd; omega
  have rja := HS4.out.ma.reg i HI.out.1 ja HJA.out
  go_wp2_with fail
  go_region
  obtain ⟨w5, hw5⟩ : ∃ W, W = (w4.setCell ⟨qs, i * 8 + ja, none⟩ (.int .i64 (wrap64 ((M.se i).r jb + (M.se i).r jc)))).drew := ⟨_, rfl⟩
  have HS5 := Lib.hid ((HS4.out.reg i ja HJA.out (wrap64 ((M.se i).r jb + (M.se i).r jc))).ext (ext_drew (Below.refl _ _)))
  rw [← hw5] at HS5 ⊢
  clear hw5 hp hq x0 x1 x2 x3 xl e0 e1 e2 e3 e4 e5 e6 ef el cf
  (try clear rja)
  (try clear rjb)
  (try clear rjc)
  go_wp2_with fail
  refine (aturn HS5.out.ma i HI.out.1 ((k : Int) + 1) (by have := HI.out; omega) (by first | (have := HI.out.2.2; have := HLN.out; omega) | (rw [ps_setReg]; (try dsimp only); have := HI.out.2.2; have := HLN.out; omega) | (rw [ps_setWo]; (try dsimp only); have := HI.out.2.2; have := HLN.out; omega) | (dsimp only; have := HI.out.2.2; have := HLN.out; omega))).mono ?_
  rintro e wt ⟨⟨rr, rfl⟩, hmt, hrt⟩
  have HST := Lib.hid (HS5.out.rgm hrt hmt)
  clear hmt hrt
  (try clear e0 e1 e2 e3 e4 e5 e6 ef el)
  obtain ⟨e0, e1, e2, e3, e4, e5, e6, ef, el⟩ := ev_cells HST.out.ev
  obtain ⟨r0, r1, r2, r3, r4, r5, r6, rf, rl⟩ := ev_cells HST.out.rs
  dsimp only at e0 e1 e2 e3 e4 e5 e6
  go_wp2_with fail
  obtain ⟨w9, hw9⟩ : ∃ W, W = set7 wt w.heap.size (.int .i64 i) (.int .i64 k) (.int .i64 2) (.int .i64 (M.se i).wo) (.int .i64 0) (.int .i64 (wrap64 ((M.se i).r jb + (M.se i).r jc))) (.int .i64 0) := ⟨_, rfl⟩
  have hbk := set7_blk (.int .i64 i) (.int .i64 k) (.int .i64 2) (.int .i64 (M.se i).wo) (.int .i64 0) (.int .i64 (wrap64 ((M.se i).r jb + (M.se i).r jc))) (.int .i64 0) HST.out.rs
  have hrg := set7_rg wt w.heap.size (.int .i64 i) (.int .i64 k) (.int .i64 2) (.int .i64 (M.se i).wo) (.int .i64 0) (.int .i64 (wrap64 ((M.se i).r jb + (M.se i).r jc))) (.int .i64 0)
  rw [← hw9] at hbk hrg
  unfold set7 at hw9
  rw [← hw9]
  clear r0 r1 r2 r3 r4 r5 r6 rf rl hw9
  obtain ⟨r0, r1, r2, r3, r4, r5, r6, rf, rl⟩ := ev_cells hbk
  (try simp only [Exit.inBlock, Exit.then]); refine bodyPost_ret (by simp [results, Tryd.results34, go_sem, r0, r1, r2, r3, r4, r5, r6]; try rfl) rfl ?_
  exact ⟨rfl, HST.out.ma.rgm hrg HST.out.sz.1, HST.out.rg.bx hrg (Nat.le_refl _)⟩

set_option maxRecDepth 100000 in
set_option maxHeartbeats 2000000 in
theorem astep_root (h : Mk w lo hi p qs qo pm lm hm cs co P M) (hL : Lims w) (i k : Nat) (busy : Bool) (a b' c : Int) (hi' : i < M.nc) (ha : (M.se i).a = k) (hk : k < (M.se i).ps.length) (hl : (M.se i).ps.length ≤ 32) (ho : (M.se i).ov = false) (hx : atI (M.se i).ps k = ⟨7, a, b', c⟩) (hw : (M.se i).wo = 0) :
    Calls Tryd.prog 34 #[.pointer (some ⟨p, 0, none⟩), .int .i64 i, .bool busy] w fun e w' => e = .returned (.tuple #[.agg #[.int .i64 i, .int .i64 k, .int .i64 7, .int .i64 (M.se i).wo, .int .i64 0, .int .i64 a, .int .i64 0], .int .i64 0]) ∧ Mk w' lo hi p qs qo pm lm hm cs co P ((M.setWo i a).turn i ((k : Int) + 1)) ∧ Rg lo hi w w' := by
  have H := Lib.hid h
  have HL := Lib.hid hL
  obtain ⟨t0, t1, t2, t3, t4, t5, t6, t7, t8, t9⟩ := ten_at h.top
  obtain ⟨hp, hq, _⟩ := h.lt
  have hn := Ma.n_of h.mm.ok
  have hI := inB_yes (l := 0) (m := (M.nc : Int) - 1) (x := i) (by omega)
  have hn1 : 1 ≤ (M.nc : Int) := by omega
  have hn2 : (M.nc : Int) ≤ 4 := by omega
  have hii : (i : Int) < (M.nc : Int) := by omega
  have hi4 : (i : Int) < 4 := by omega
  obtain ⟨A, cap, hP, hS, _⟩ := (h.pg i hi').1
  obtain ⟨b, off, hA, hbl, hcs⟩ := hS (by omega)
  subst hA
  have hck := hcs k hk
  rw [hx] at hck
  dsimp only at hck
  obtain ⟨y0, y1, y2, y3⟩ := hck
  clear hcs
  have hkl : (k : Int) < ((M.se i).ps.length : Int) := by omega
  have hk32 : (k : Int) ≤ 32 := by omega
  have HC := Lib.hid (fun (W : World) (hb : Below w.heap.size w W) => (h.ext hb).sc i hi')
  rw [ha, ho, hP] at HC
  have HY := Lib.hid (And.intro hbl (And.intro y0 (And.intro y1 (And.intro y2 y3))))
  have HI := Lib.hid (And.intro hi' (And.intro hk hl))
  have hwo : ((M.se i).wo == 0) = true := by simpa using hw
  have HWO := Lib.hid hw
  clear hw
  clear h hL hn hi' ha hk hl ho hx hP hS y0 y1 y2 y3 hbl
  generalize hln : (M.se i).ps.length = ln at *
  have HLN := Lib.hid hln
  clear hln
  go_enter Tryd.func34, Tryd.ntmps34
  go_wp2_with fail
  refine (within_new _ _ _ _ _ _ (by simp)).mono ?_
  rintro e wx ⟨rfl, hw⟩
  rw [hw]
  clear hw
  obtain ⟨w1, hw1⟩ : ∃ W, W = (w.alloc (.cells #[.int .i64 0, .int .i64 0, .int .i64 0, .int .i64 0, .int .i64 0, .int .i64 0, .int .i64 0] 42)).alloc (.cells #[.int .i64 i] 3) := ⟨_, rfl⟩
  have hb1 : Below w.heap.size w w1 := by rw [hw1]; exact (by repeat (with_reducible first | exact Below.refl _ _ | assumption | (refine ext_next (by assumption) ?_) | apply ext_alloc | apply ext_past | apply ext_drew | apply ext_drewN))
  have HR1 : Hid (w1.heap[w.heap.size]? = some (.cells #[.int .i64 0, .int .i64 0, .int .i64 0, .int .i64 0, .int .i64 0, .int .i64 0, .int .i64 0] 42 (0, 0))) := Lib.hid (by rw [hw1]; exact alOld (alNew rfl))
  rw [← hw1]
  have HB1 := Lib.hid hb1
  clear hw1 hb1 t0 t1 t2 t3 t4 t5 t6 t7 t8 t9 hp hq
  obtain ⟨t0, t1, t2, t3, t4, t5, t6, t7, t8, t9⟩ := ten_at (H.out.ext HB1.out).top
  obtain ⟨hp, hq, _⟩ := (H.out.ext HB1.out).lt
  obtain ⟨c4, c5, c6, c7, _⟩ := HC.out _ HB1.out
  have hbl := Nat.lt_of_lt_of_le HY.out.1 HB1.out.size
  have y0 := (HB1.out.cell (p := ⟨b, _, none⟩) HY.out.1).trans HY.out.2.1
  have y1 := (HB1.out.cell (p := ⟨b, _, none⟩) HY.out.1).trans HY.out.2.2.1
  have y2 := (HB1.out.cell (p := ⟨b, _, none⟩) HY.out.1).trans HY.out.2.2.2.1
  have y3 := (HB1.out.cell (p := ⟨b, _, none⟩) HY.out.1).trans HY.out.2.2.2.2
  go_wp2_with fail
  go_region
  obtain ⟨w2, hw2⟩ : ∃ W, W = (w1.alloc (.cells #[.int .i64 7, .int .i64 a, .int .i64 b', .int .i64 c] 36)).drew := ⟨_, rfl⟩
  have hb2 : Below w1.heap.size w1 w2 := by rw [hw2]; exact ext_drew (ext_alloc _ (Below.refl _ _))
  have HX2 : Hid (w2.heap[w1.heap.size]? = some (.cells #[.int .i64 7, .int .i64 a, .int .i64 b', .int .i64 c] 36 (0, 0))) := Lib.hid (by rw [hw2]; exact alNew rfl)
  rw [← hw2]
  have HR2 := Lib.hid ((hb2.block _ (lt_of HR1.out)).trans HR1.out)
  have HB2 := Lib.hid (ext_trans HB1.out hb2)
  clear hw2 hb2 y0 y1 y2 y3 hbl t0 t1 t2 t3 t4 t5 t6 t7 t8 t9 hp hq c4 c5 c6 c7
  obtain ⟨hp, hq, _⟩ := (H.out.ext HB2.out).lt
  obtain ⟨c4, c5, c6, c7, _⟩ := HC.out _ HB2.out
  obtain ⟨x0, x1, x2, x3, xl⟩ := ins_cells (x := ⟨7, a, b', c⟩) HX2.out
  dsimp only at x0 x1 x2 x3
  go_wp2_with fail
  go_region
  obtain ⟨w3, hw3⟩ : ∃ W, W = (w2.alloc (.cells #[.int .i64 i, .int .i64 k, .int .i64 7, .int .i64 (M.se i).wo, .int .i64 0, .int .i64 0, .int .i64 0] 42)).drew := ⟨_, rfl⟩
  have hb3 : Below w2.heap.size w2 w3 := by rw [hw3]; exact ext_drew (ext_alloc _ (Below.refl _ _))
  have HE3 : Hid (w3.heap[w2.heap.size]? = some (.cells #[.int .i64 i, .int .i64 k, .int .i64 7, .int .i64 (M.se i).wo, .int .i64 0, .int .i64 0, .int .i64 0] 42 (0, 0))) := Lib.hid (by rw [hw3]; exact alNew rfl)
  rw [← hw3]
  have HS3 : Hid (Sp w w3 lo hi p qs qo pm lm hm cs co P w1.heap.size w2.heap.size M ⟨7, a, b', c⟩ ⟨i, k, 7, (M.se i).wo, 0, 0, 0⟩) := Lib.hid ⟨H.out.ext (ext_trans HB2.out hb3), HE3.out, (hb3.block _ (lt_of HR2.out)).trans HR2.out, (hb3.block _ (lt_of HX2.out)).trans HX2.out, Rg.of_below (ext_trans HB2.out hb3), H.out.sz, lt_of HR1.out, lt_of HX2.out⟩
  have HB3 := Lib.hid (ext_trans HB2.out hb3)
  clear hw3 hb3 x0 x1 x2 x3 xl hp hq c4 c5 c6 c7 HE3 HR1 HR2 HX2
  obtain ⟨c4, c5, c6, c7, cf⟩ := HC.out _ HB3.out
  generalize w2.heap.size = bE at *
  generalize w1.heap.size = bI at *
  obtain ⟨hp, hq, _⟩ := HS3.out.ma.lt
  obtain ⟨x0, x1, x2, x3, xl⟩ := ins_cells HS3.out.ins
  dsimp only at x0 x1 x2 x3
  obtain ⟨e0, e1, e2, e3, e4, e5, e6, ef, el⟩ := ev_cells HS3.out.ev
  dsimp only at e0 e1 e2 e3 e4 e5 e6
  have cf := (HS3.out.ma.sc i HI.out.1).2.2.2.2
  have hqE : qs ≠ bE := by have := HS3.out.sz; have := HS3.out.ma.bd; omega
  have c5 := (HS3.out.ma.sc i HI.out.1).2.1
  go_wp2_with fail
  obtain ⟨w4, hw4⟩ : ∃ W, W = (w3.setCell ⟨bE, 5, none⟩ (.int .i64 a)).setCell ⟨qs, i * 8 + 5, none⟩ (.int .i64 a) := ⟨_, rfl⟩
  have HS4 := Lib.hid ((HS3.out.va a).wo i a)
  rw [← hw4] at HS4 ⊢
  clear hw4 hp hq x0 x1 x2 x3 xl e0 e1 e2 e3 e4 e5 e6 ef el cf
  (try clear rja)
  (try clear rjb)
  (try clear rjc)
  refine (aturn HS4.out.ma i HI.out.1 ((k : Int) + 1) (by have := HI.out; omega) (by first | (have := HI.out.2.2; have := HLN.out; omega) | (rw [ps_setReg]; (try dsimp only); have := HI.out.2.2; have := HLN.out; omega) | (rw [ps_setWo]; (try dsimp only); have := HI.out.2.2; have := HLN.out; omega) | (dsimp only; have := HI.out.2.2; have := HLN.out; omega))).mono ?_
  rintro e wt ⟨⟨rr, rfl⟩, hmt, hrt⟩
  have HST := Lib.hid (HS4.out.rgm hrt hmt)
  clear hmt hrt
  (try clear e0 e1 e2 e3 e4 e5 e6 ef el)
  obtain ⟨e0, e1, e2, e3, e4, e5, e6, ef, el⟩ := ev_cells HST.out.ev
  obtain ⟨r0, r1, r2, r3, r4, r5, r6, rf, rl⟩ := ev_cells HST.out.rs
  dsimp only at e0 e1 e2 e3 e4 e5 e6
  go_wp2_with fail
  obtain ⟨w9, hw9⟩ : ∃ W, W = set7 wt w.heap.size (.int .i64 i) (.int .i64 k) (.int .i64 7) (.int .i64 (M.se i).wo) (.int .i64 0) (.int .i64 a) (.int .i64 0) := ⟨_, rfl⟩
  have hbk := set7_blk (.int .i64 i) (.int .i64 k) (.int .i64 7) (.int .i64 (M.se i).wo) (.int .i64 0) (.int .i64 a) (.int .i64 0) HST.out.rs
  have hrg := set7_rg wt w.heap.size (.int .i64 i) (.int .i64 k) (.int .i64 7) (.int .i64 (M.se i).wo) (.int .i64 0) (.int .i64 a) (.int .i64 0)
  rw [← hw9] at hbk hrg
  unfold set7 at hw9
  rw [← hw9]
  clear r0 r1 r2 r3 r4 r5 r6 rf rl hw9
  obtain ⟨r0, r1, r2, r3, r4, r5, r6, rf, rl⟩ := ev_cells hbk
  (try simp only [Exit.inBlock, Exit.then]); refine bodyPost_ret (by simp [results, Tryd.results34, go_sem, r0, r1, r2, r3, r4, r5, r6]; try rfl) rfl ?_
  exact ⟨rfl, HST.out.ma.rgm hrg HST.out.sz.1, HST.out.rg.bx hrg (Nat.le_refl _)⟩

set_option maxRecDepth 100000 in
set_option maxHeartbeats 2000000 in
theorem astep_noroot (h : Mk w lo hi p qs qo pm lm hm cs co P M) (hL : Lims w) (i k : Nat) (busy : Bool) (a b' c : Int) (hi' : i < M.nc) (ha : (M.se i).a = k) (hk : k < (M.se i).ps.length) (hl : (M.se i).ps.length ≤ 32) (ho : (M.se i).ov = false) (hx : atI (M.se i).ps k = ⟨7, a, b', c⟩) (hw : (M.se i).wo ≠ 0) :
    Calls Tryd.prog 34 #[.pointer (some ⟨p, 0, none⟩), .int .i64 i, .bool busy] w fun e w' => e = .returned (.tuple #[.agg #[.int .i64 i, .int .i64 k, .int .i64 7, .int .i64 (M.se i).wo, .int .i64 0, .int .i64 a, .int .i64 18], .int .i64 0]) ∧ Mk w' lo hi p qs qo pm lm hm cs co P (M.turn i ((k : Int) + 1)) ∧ Rg lo hi w w' := by
  have H := Lib.hid h
  have HL := Lib.hid hL
  obtain ⟨t0, t1, t2, t3, t4, t5, t6, t7, t8, t9⟩ := ten_at h.top
  obtain ⟨hp, hq, _⟩ := h.lt
  have hn := Ma.n_of h.mm.ok
  have hI := inB_yes (l := 0) (m := (M.nc : Int) - 1) (x := i) (by omega)
  have hn1 : 1 ≤ (M.nc : Int) := by omega
  have hn2 : (M.nc : Int) ≤ 4 := by omega
  have hii : (i : Int) < (M.nc : Int) := by omega
  have hi4 : (i : Int) < 4 := by omega
  obtain ⟨A, cap, hP, hS, _⟩ := (h.pg i hi').1
  obtain ⟨b, off, hA, hbl, hcs⟩ := hS (by omega)
  subst hA
  have hck := hcs k hk
  rw [hx] at hck
  dsimp only at hck
  obtain ⟨y0, y1, y2, y3⟩ := hck
  clear hcs
  have hkl : (k : Int) < ((M.se i).ps.length : Int) := by omega
  have hk32 : (k : Int) ≤ 32 := by omega
  have HC := Lib.hid (fun (W : World) (hb : Below w.heap.size w W) => (h.ext hb).sc i hi')
  rw [ha, ho, hP] at HC
  have HY := Lib.hid (And.intro hbl (And.intro y0 (And.intro y1 (And.intro y2 y3))))
  have HI := Lib.hid (And.intro hi' (And.intro hk hl))
  have hwo : ((M.se i).wo == 0) = false := by simpa using hw
  have HWO := Lib.hid hw
  clear hw
  clear h hL hn hi' ha hk hl ho hx hP hS y0 y1 y2 y3 hbl
  generalize hln : (M.se i).ps.length = ln at *
  have HLN := Lib.hid hln
  clear hln
  go_enter Tryd.func34, Tryd.ntmps34
  go_wp2_with fail
  refine (within_new _ _ _ _ _ _ (by simp)).mono ?_
  rintro e wx ⟨rfl, hw⟩
  rw [hw]
  clear hw
  obtain ⟨w1, hw1⟩ : ∃ W, W = (w.alloc (.cells #[.int .i64 0, .int .i64 0, .int .i64 0, .int .i64 0, .int .i64 0, .int .i64 0, .int .i64 0] 42)).alloc (.cells #[.int .i64 i] 3) := ⟨_, rfl⟩
  have hb1 : Below w.heap.size w w1 := by rw [hw1]; exact (by repeat (with_reducible first | exact Below.refl _ _ | assumption | (refine ext_next (by assumption) ?_) | apply ext_alloc | apply ext_past | apply ext_drew | apply ext_drewN))
  have HR1 : Hid (w1.heap[w.heap.size]? = some (.cells #[.int .i64 0, .int .i64 0, .int .i64 0, .int .i64 0, .int .i64 0, .int .i64 0, .int .i64 0] 42 (0, 0))) := Lib.hid (by rw [hw1]; exact alOld (alNew rfl))
  rw [← hw1]
  have HB1 := Lib.hid hb1
  clear hw1 hb1 t0 t1 t2 t3 t4 t5 t6 t7 t8 t9 hp hq
  obtain ⟨t0, t1, t2, t3, t4, t5, t6, t7, t8, t9⟩ := ten_at (H.out.ext HB1.out).top
  obtain ⟨hp, hq, _⟩ := (H.out.ext HB1.out).lt
  obtain ⟨c4, c5, c6, c7, _⟩ := HC.out _ HB1.out
  have hbl := Nat.lt_of_lt_of_le HY.out.1 HB1.out.size
  have y0 := (HB1.out.cell (p := ⟨b, _, none⟩) HY.out.1).trans HY.out.2.1
  have y1 := (HB1.out.cell (p := ⟨b, _, none⟩) HY.out.1).trans HY.out.2.2.1
  have y2 := (HB1.out.cell (p := ⟨b, _, none⟩) HY.out.1).trans HY.out.2.2.2.1
  have y3 := (HB1.out.cell (p := ⟨b, _, none⟩) HY.out.1).trans HY.out.2.2.2.2
  go_wp2_with fail
  go_region
  obtain ⟨w2, hw2⟩ : ∃ W, W = (w1.alloc (.cells #[.int .i64 7, .int .i64 a, .int .i64 b', .int .i64 c] 36)).drew := ⟨_, rfl⟩
  have hb2 : Below w1.heap.size w1 w2 := by rw [hw2]; exact ext_drew (ext_alloc _ (Below.refl _ _))
  have HX2 : Hid (w2.heap[w1.heap.size]? = some (.cells #[.int .i64 7, .int .i64 a, .int .i64 b', .int .i64 c] 36 (0, 0))) := Lib.hid (by rw [hw2]; exact alNew rfl)
  rw [← hw2]
  have HR2 := Lib.hid ((hb2.block _ (lt_of HR1.out)).trans HR1.out)
  have HB2 := Lib.hid (ext_trans HB1.out hb2)
  clear hw2 hb2 y0 y1 y2 y3 hbl t0 t1 t2 t3 t4 t5 t6 t7 t8 t9 hp hq c4 c5 c6 c7
  obtain ⟨hp, hq, _⟩ := (H.out.ext HB2.out).lt
  obtain ⟨c4, c5, c6, c7, _⟩ := HC.out _ HB2.out
  obtain ⟨x0, x1, x2, x3, xl⟩ := ins_cells (x := ⟨7, a, b', c⟩) HX2.out
  dsimp only at x0 x1 x2 x3
  go_wp2_with fail
  go_region
  obtain ⟨w3, hw3⟩ : ∃ W, W = (w2.alloc (.cells #[.int .i64 i, .int .i64 k, .int .i64 7, .int .i64 (M.se i).wo, .int .i64 0, .int .i64 0, .int .i64 0] 42)).drew := ⟨_, rfl⟩
  have hb3 : Below w2.heap.size w2 w3 := by rw [hw3]; exact ext_drew (ext_alloc _ (Below.refl _ _))
  have HE3 : Hid (w3.heap[w2.heap.size]? = some (.cells #[.int .i64 i, .int .i64 k, .int .i64 7, .int .i64 (M.se i).wo, .int .i64 0, .int .i64 0, .int .i64 0] 42 (0, 0))) := Lib.hid (by rw [hw3]; exact alNew rfl)
  rw [← hw3]
  have HS3 : Hid (Sp w w3 lo hi p qs qo pm lm hm cs co P w1.heap.size w2.heap.size M ⟨7, a, b', c⟩ ⟨i, k, 7, (M.se i).wo, 0, 0, 0⟩) := Lib.hid ⟨H.out.ext (ext_trans HB2.out hb3), HE3.out, (hb3.block _ (lt_of HR2.out)).trans HR2.out, (hb3.block _ (lt_of HX2.out)).trans HX2.out, Rg.of_below (ext_trans HB2.out hb3), H.out.sz, lt_of HR1.out, lt_of HX2.out⟩
  have HB3 := Lib.hid (ext_trans HB2.out hb3)
  clear hw3 hb3 x0 x1 x2 x3 xl hp hq c4 c5 c6 c7 HE3 HR1 HR2 HX2
  obtain ⟨c4, c5, c6, c7, cf⟩ := HC.out _ HB3.out
  generalize w2.heap.size = bE at *
  generalize w1.heap.size = bI at *
  obtain ⟨hp, hq, _⟩ := HS3.out.ma.lt
  obtain ⟨x0, x1, x2, x3, xl⟩ := ins_cells HS3.out.ins
  dsimp only at x0 x1 x2 x3
  obtain ⟨e0, e1, e2, e3, e4, e5, e6, ef, el⟩ := ev_cells HS3.out.ev
  dsimp only at e0 e1 e2 e3 e4 e5 e6
  have cf := (HS3.out.ma.sc i HI.out.1).2.2.2.2
  have hqE : qs ≠ bE := by have := HS3.out.sz; have := HS3.out.ma.bd; omega
  have c5 := (HS3.out.ma.sc i HI.out.1).2.1
  go_wp2_with fail
  obtain ⟨w4, hw4⟩ : ∃ W, W = (w3.setCell ⟨bE, 5, none⟩ (.int .i64 a)).setCell ⟨bE, 6, none⟩ (.int .i64 18) := ⟨_, rfl⟩
  have HS4 := Lib.hid ((HS3.out.va a).cd 18)
  rw [← hw4] at HS4 ⊢
  clear hw4 hp hq x0 x1 x2 x3 xl e0 e1 e2 e3 e4 e5 e6 ef el cf
  (try clear rja)
  (try clear rjb)
  (try clear rjc)
  refine (aturn HS4.out.ma i HI.out.1 ((k : Int) + 1) (by have := HI.out; omega) (by first | (have := HI.out.2.2; have := HLN.out; omega) | (rw [ps_setReg]; (try dsimp only); have := HI.out.2.2; have := HLN.out; omega) | (rw [ps_setWo]; (try dsimp only); have := HI.out.2.2; have := HLN.out; omega) | (dsimp only; have := HI.out.2.2; have := HLN.out; omega))).mono ?_
  rintro e wt ⟨⟨rr, rfl⟩, hmt, hrt⟩
  have HST := Lib.hid (HS4.out.rgm hrt hmt)
  clear hmt hrt
  (try clear e0 e1 e2 e3 e4 e5 e6 ef el)
  obtain ⟨e0, e1, e2, e3, e4, e5, e6, ef, el⟩ := ev_cells HST.out.ev
  obtain ⟨r0, r1, r2, r3, r4, r5, r6, rf, rl⟩ := ev_cells HST.out.rs
  dsimp only at e0 e1 e2 e3 e4 e5 e6
  go_wp2_with fail
  obtain ⟨w9, hw9⟩ : ∃ W, W = set7 wt w.heap.size (.int .i64 i) (.int .i64 k) (.int .i64 7) (.int .i64 (M.se i).wo) (.int .i64 0) (.int .i64 a) (.int .i64 18) := ⟨_, rfl⟩
  have hbk := set7_blk (.int .i64 i) (.int .i64 k) (.int .i64 7) (.int .i64 (M.se i).wo) (.int .i64 0) (.int .i64 a) (.int .i64 18) HST.out.rs
  have hrg := set7_rg wt w.heap.size (.int .i64 i) (.int .i64 k) (.int .i64 7) (.int .i64 (M.se i).wo) (.int .i64 0) (.int .i64 a) (.int .i64 18)
  rw [← hw9] at hbk hrg
  unfold set7 at hw9
  rw [← hw9]
  clear r0 r1 r2 r3 r4 r5 r6 rf rl hw9
  obtain ⟨r0, r1, r2, r3, r4, r5, r6, rf, rl⟩ := ev_cells hbk
  (try simp only [Exit.inBlock, Exit.then]); refine bodyPost_ret (by simp [results, Tryd.results34, go_sem, r0, r1, r2, r3, r4, r5, r6]; try rfl) rfl ?_
  exact ⟨rfl, HST.out.ma.rgm hrg HST.out.sz.1, HST.out.rg.bx hrg (Nat.le_refl _)⟩

set_option maxRecDepth 100000 in
set_option maxHeartbeats 2000000 in
theorem astep_jump (h : Mk w lo hi p qs qo pm lm hm cs co P M) (hL : Lims w) (i k : Nat) (busy : Bool) (a : Nat) (b' c : Int) (hi' : i < M.nc) (ha : (M.se i).a = k) (hk : k < (M.se i).ps.length) (hl : (M.se i).ps.length ≤ 32) (ho : (M.se i).ov = false) (hx : atI (M.se i).ps k = ⟨9, a, b', c⟩)  :
    Calls Tryd.prog 34 #[.pointer (some ⟨p, 0, none⟩), .int .i64 i, .bool busy] w fun e w' => e = .returned (.tuple #[.agg #[.int .i64 i, .int .i64 k, .int .i64 9, .int .i64 (M.se i).wo, .int .i64 0, .int .i64 a, .int .i64 0], .int .i64 0]) ∧ Mk w' lo hi p qs qo pm lm hm cs co P (M.turn i a) ∧ Rg lo hi w w' := by
  have H := Lib.hid h
  have HL := Lib.hid hL
  obtain ⟨t0, t1, t2, t3, t4, t5, t6, t7, t8, t9⟩ := ten_at h.top
  obtain ⟨hp, hq, _⟩ := h.lt
  have hn := Ma.n_of h.mm.ok
  have hI := inB_yes (l := 0) (m := (M.nc : Int) - 1) (x := i) (by omega)
  have hn1 : 1 ≤ (M.nc : Int) := by omega
  have hn2 : (M.nc : Int) ≤ 4 := by omega
  have hii : (i : Int) < (M.nc : Int) := by omega
  have hi4 : (i : Int) < 4 := by omega
  obtain ⟨A, cap, hP, hS, _⟩ := (h.pg i hi').1
  obtain ⟨b, off, hA, hbl, hcs⟩ := hS (by omega)
  subst hA
  have hck := hcs k hk
  rw [hx] at hck
  dsimp only at hck
  obtain ⟨y0, y1, y2, y3⟩ := hck
  clear hcs
  have hkl : (k : Int) < ((M.se i).ps.length : Int) := by omega
  have hk32 : (k : Int) ≤ 32 := by omega
  have HC := Lib.hid (fun (W : World) (hb : Below w.heap.size w W) => (h.ext hb).sc i hi')
  rw [ha, ho, hP] at HC
  have HY := Lib.hid (And.intro hbl (And.intro y0 (And.intro y1 (And.intro y2 y3))))
  have HI := Lib.hid (And.intro hi' (And.intro hk hl))
  clear h hL hn hi' ha hk hl ho hx hP hS y0 y1 y2 y3 hbl
  generalize hln : (M.se i).ps.length = ln at *
  have HLN := Lib.hid hln
  clear hln
  go_enter Tryd.func34, Tryd.ntmps34
  go_wp2_with fail
  refine (within_new _ _ _ _ _ _ (by simp)).mono ?_
  rintro e wx ⟨rfl, hw⟩
  rw [hw]
  clear hw
  obtain ⟨w1, hw1⟩ : ∃ W, W = (w.alloc (.cells #[.int .i64 0, .int .i64 0, .int .i64 0, .int .i64 0, .int .i64 0, .int .i64 0, .int .i64 0] 42)).alloc (.cells #[.int .i64 i] 3) := ⟨_, rfl⟩
  have hb1 : Below w.heap.size w w1 := by rw [hw1]; exact (by repeat (with_reducible first | exact Below.refl _ _ | assumption | (refine ext_next (by assumption) ?_) | apply ext_alloc | apply ext_past | apply ext_drew | apply ext_drewN))
  have HR1 : Hid (w1.heap[w.heap.size]? = some (.cells #[.int .i64 0, .int .i64 0, .int .i64 0, .int .i64 0, .int .i64 0, .int .i64 0, .int .i64 0] 42 (0, 0))) := Lib.hid (by rw [hw1]; exact alOld (alNew rfl))
  rw [← hw1]
  have HB1 := Lib.hid hb1
  clear hw1 hb1 t0 t1 t2 t3 t4 t5 t6 t7 t8 t9 hp hq
  obtain ⟨t0, t1, t2, t3, t4, t5, t6, t7, t8, t9⟩ := ten_at (H.out.ext HB1.out).top
  obtain ⟨hp, hq, _⟩ := (H.out.ext HB1.out).lt
  obtain ⟨c4, c5, c6, c7, _⟩ := HC.out _ HB1.out
  have hbl := Nat.lt_of_lt_of_le HY.out.1 HB1.out.size
  have y0 := (HB1.out.cell (p := ⟨b, _, none⟩) HY.out.1).trans HY.out.2.1
  have y1 := (HB1.out.cell (p := ⟨b, _, none⟩) HY.out.1).trans HY.out.2.2.1
  have y2 := (HB1.out.cell (p := ⟨b, _, none⟩) HY.out.1).trans HY.out.2.2.2.1
  have y3 := (HB1.out.cell (p := ⟨b, _, none⟩) HY.out.1).trans HY.out.2.2.2.2
  go_wp2_with fail
  go_region
  obtain ⟨w2, hw2⟩ : ∃ W, W = (w1.alloc (.cells #[.int .i64 9, .int .i64 a, .int .i64 b', .int .i64 c] 36)).drew := ⟨_, rfl⟩
  have hb2 : Below w1.heap.size w1 w2 := by rw [hw2]; exact ext_drew (ext_alloc _ (Below.refl _ _))
  have HX2 : Hid (w2.heap[w1.heap.size]? = some (.cells #[.int .i64 9, .int .i64 a, .int .i64 b', .int .i64 c] 36 (0, 0))) := Lib.hid (by rw [hw2]; exact alNew rfl)
  rw [← hw2]
  have HR2 := Lib.hid ((hb2.block _ (lt_of HR1.out)).trans HR1.out)
  have HB2 := Lib.hid (ext_trans HB1.out hb2)
  clear hw2 hb2 y0 y1 y2 y3 hbl t0 t1 t2 t3 t4 t5 t6 t7 t8 t9 hp hq c4 c5 c6 c7
  obtain ⟨hp, hq, _⟩ := (H.out.ext HB2.out).lt
  obtain ⟨c4, c5, c6, c7, _⟩ := HC.out _ HB2.out
  obtain ⟨x0, x1, x2, x3, xl⟩ := ins_cells (x := ⟨9, a, b', c⟩) HX2.out
  dsimp only at x0 x1 x2 x3
  go_wp2_with fail
  go_region
  obtain ⟨w3, hw3⟩ : ∃ W, W = (w2.alloc (.cells #[.int .i64 i, .int .i64 k, .int .i64 9, .int .i64 (M.se i).wo, .int .i64 0, .int .i64 0, .int .i64 0] 42)).drew := ⟨_, rfl⟩
  have hb3 : Below w2.heap.size w2 w3 := by rw [hw3]; exact ext_drew (ext_alloc _ (Below.refl _ _))
  have HE3 : Hid (w3.heap[w2.heap.size]? = some (.cells #[.int .i64 i, .int .i64 k, .int .i64 9, .int .i64 (M.se i).wo, .int .i64 0, .int .i64 0, .int .i64 0] 42 (0, 0))) := Lib.hid (by rw [hw3]; exact alNew rfl)
  rw [← hw3]
  have HS3 : Hid (Sp w w3 lo hi p qs qo pm lm hm cs co P w1.heap.size w2.heap.size M ⟨9, a, b', c⟩ ⟨i, k, 9, (M.se i).wo, 0, 0, 0⟩) := Lib.hid ⟨H.out.ext (ext_trans HB2.out hb3), HE3.out, (hb3.block _ (lt_of HR2.out)).trans HR2.out, (hb3.block _ (lt_of HX2.out)).trans HX2.out, Rg.of_below (ext_trans HB2.out hb3), H.out.sz, lt_of HR1.out, lt_of HX2.out⟩
  have HB3 := Lib.hid (ext_trans HB2.out hb3)
  clear hw3 hb3 x0 x1 x2 x3 xl hp hq c4 c5 c6 c7 HE3 HR1 HR2 HX2
  obtain ⟨c4, c5, c6, c7, cf⟩ := HC.out _ HB3.out
  generalize w2.heap.size = bE at *
  generalize w1.heap.size = bI at *
  obtain ⟨hp, hq, _⟩ := HS3.out.ma.lt
  obtain ⟨x0, x1, x2, x3, xl⟩ := ins_cells HS3.out.ins
  dsimp only at x0 x1 x2 x3
  obtain ⟨e0, e1, e2, e3, e4, e5, e6, ef, el⟩ := ev_cells HS3.out.ev
  dsimp only at e0 e1 e2 e3 e4 e5 e6
  have cf := (HS3.out.ma.sc i HI.out.1).2.2.2.2
  have hqE : qs ≠ bE := by have := HS3.out.sz; have := HS3.out.ma.bd; omega
  go_wp2_with fail
  obtain ⟨w4, hw4⟩ : ∃ W, W = w3.setCell ⟨bE, 5, none⟩ (.int .i64 a) := ⟨_, rfl⟩
  have HS4 := Lib.hid (HS3.out.va a)
  rw [← hw4] at HS4 ⊢
  clear hw4 hp hq x0 x1 x2 x3 xl e0 e1 e2 e3 e4 e5 e6 ef el cf
  (try clear rja)
  (try clear rjb)
  (try clear rjc)
  refine (aturn HS4.out.ma i HI.out.1 a (by have := HI.out; omega) (by first | (have := HI.out.2.2; have := HLN.out; omega) | (rw [ps_setReg]; (try dsimp only); have := HI.out.2.2; have := HLN.out; omega) | (rw [ps_setWo]; (try dsimp only); have := HI.out.2.2; have := HLN.out; omega) | (dsimp only; have := HI.out.2.2; have := HLN.out; omega))).mono ?_
  rintro e wt ⟨⟨rr, rfl⟩, hmt, hrt⟩
  have HST := Lib.hid (HS4.out.rgm hrt hmt)
  clear hmt hrt
  (try clear e0 e1 e2 e3 e4 e5 e6 ef el)
  obtain ⟨e0, e1, e2, e3, e4, e5, e6, ef, el⟩ := ev_cells HST.out.ev
  obtain ⟨r0, r1, r2, r3, r4, r5, r6, rf, rl⟩ := ev_cells HST.out.rs
  dsimp only at e0 e1 e2 e3 e4 e5 e6
  go_wp2_with fail
  obtain ⟨w9, hw9⟩ : ∃ W, W = set7 wt w.heap.size (.int .i64 i) (.int .i64 k) (.int .i64 9) (.int .i64 (M.se i).wo) (.int .i64 0) (.int .i64 a) (.int .i64 0) := ⟨_, rfl⟩
  have hbk := set7_blk (.int .i64 i) (.int .i64 k) (.int .i64 9) (.int .i64 (M.se i).wo) (.int .i64 0) (.int .i64 a) (.int .i64 0) HST.out.rs
  have hrg := set7_rg wt w.heap.size (.int .i64 i) (.int .i64 k) (.int .i64 9) (.int .i64 (M.se i).wo) (.int .i64 0) (.int .i64 a) (.int .i64 0)
  rw [← hw9] at hbk hrg
  unfold set7 at hw9
  rw [← hw9]
  clear r0 r1 r2 r3 r4 r5 r6 rf rl hw9
  obtain ⟨r0, r1, r2, r3, r4, r5, r6, rf, rl⟩ := ev_cells hbk
  (try simp only [Exit.inBlock, Exit.then]); refine bodyPost_ret (by simp [results, Tryd.results34, go_sem, r0, r1, r2, r3, r4, r5, r6]; try rfl) rfl ?_
  exact ⟨rfl, HST.out.ma.rgm hrg HST.out.sz.1, HST.out.rg.bx hrg (Nat.le_refl _)⟩

set_option maxRecDepth 100000 in
set_option maxHeartbeats 2000000 in
theorem astep_zero (h : Mk w lo hi p qs qo pm lm hm cs co P M) (hL : Lims w) (i k : Nat) (busy : Bool) (ja b' : Nat) (c : Int) (hja : ja < 4) (hi' : i < M.nc) (ha : (M.se i).a = k) (hk : k < (M.se i).ps.length) (hl : (M.se i).ps.length ≤ 32) (ho : (M.se i).ov = false) (hx : atI (M.se i).ps k = ⟨10, ja, b', c⟩) (hz : (M.se i).r ja = 0) :
    Calls Tryd.prog 34 #[.pointer (some ⟨p, 0, none⟩), .int .i64 i, .bool busy] w fun e w' => e = .returned (.tuple #[.agg #[.int .i64 i, .int .i64 k, .int .i64 10, .int .i64 (M.se i).wo, .int .i64 0, .int .i64 0, .int .i64 0], .int .i64 0]) ∧ Mk w' lo hi p qs qo pm lm hm cs co P (M.turn i b') ∧ Rg lo hi w w' := by
  have H := Lib.hid h
  have HL := Lib.hid hL
  obtain ⟨t0, t1, t2, t3, t4, t5, t6, t7, t8, t9⟩ := ten_at h.top
  obtain ⟨hp, hq, _⟩ := h.lt
  have hn := Ma.n_of h.mm.ok
  have hI := inB_yes (l := 0) (m := (M.nc : Int) - 1) (x := i) (by omega)
  have hn1 : 1 ≤ (M.nc : Int) := by omega
  have hn2 : (M.nc : Int) ≤ 4 := by omega
  have hii : (i : Int) < (M.nc : Int) := by omega
  have hi4 : (i : Int) < 4 := by omega
  obtain ⟨A, cap, hP, hS, _⟩ := (h.pg i hi').1
  obtain ⟨b, off, hA, hbl, hcs⟩ := hS (by omega)
  subst hA
  have hck := hcs k hk
  rw [hx] at hck
  dsimp only at hck
  obtain ⟨y0, y1, y2, y3⟩ := hck
  clear hcs
  have hkl : (k : Int) < ((M.se i).ps.length : Int) := by omega
  have hk32 : (k : Int) ≤ 32 := by omega
  have HC := Lib.hid (fun (W : World) (hb : Below w.heap.size w W) => (h.ext hb).sc i hi')
  rw [ha, ho, hP] at HC
  have HY := Lib.hid (And.intro hbl (And.intro y0 (And.intro y1 (And.intro y2 y3))))
  have HI := Lib.hid (And.intro hi' (And.intro hk hl))
  have HJA := Lib.hid hja
  have hja4 : (ja : Int) < 4 := by omega
  clear hja
  have HZ := Lib.hid hz
  clear hz
  clear h hL hn hi' ha hk hl ho hx hP hS y0 y1 y2 y3 hbl
  generalize hln : (M.se i).ps.length = ln at *
  have HLN := Lib.hid hln
  clear hln
  go_enter Tryd.func34, Tryd.ntmps34
  go_wp2_with fail
  refine (within_new _ _ _ _ _ _ (by simp)).mono ?_
  rintro e wx ⟨rfl, hw⟩
  rw [hw]
  clear hw
  obtain ⟨w1, hw1⟩ : ∃ W, W = (w.alloc (.cells #[.int .i64 0, .int .i64 0, .int .i64 0, .int .i64 0, .int .i64 0, .int .i64 0, .int .i64 0] 42)).alloc (.cells #[.int .i64 i] 3) := ⟨_, rfl⟩
  have hb1 : Below w.heap.size w w1 := by rw [hw1]; exact (by repeat (with_reducible first | exact Below.refl _ _ | assumption | (refine ext_next (by assumption) ?_) | apply ext_alloc | apply ext_past | apply ext_drew | apply ext_drewN))
  have HR1 : Hid (w1.heap[w.heap.size]? = some (.cells #[.int .i64 0, .int .i64 0, .int .i64 0, .int .i64 0, .int .i64 0, .int .i64 0, .int .i64 0] 42 (0, 0))) := Lib.hid (by rw [hw1]; exact alOld (alNew rfl))
  rw [← hw1]
  have HB1 := Lib.hid hb1
  clear hw1 hb1 t0 t1 t2 t3 t4 t5 t6 t7 t8 t9 hp hq
  obtain ⟨t0, t1, t2, t3, t4, t5, t6, t7, t8, t9⟩ := ten_at (H.out.ext HB1.out).top
  obtain ⟨hp, hq, _⟩ := (H.out.ext HB1.out).lt
  obtain ⟨c4, c5, c6, c7, _⟩ := HC.out _ HB1.out
  have hbl := Nat.lt_of_lt_of_le HY.out.1 HB1.out.size
  have y0 := (HB1.out.cell (p := ⟨b, _, none⟩) HY.out.1).trans HY.out.2.1
  have y1 := (HB1.out.cell (p := ⟨b, _, none⟩) HY.out.1).trans HY.out.2.2.1
  have y2 := (HB1.out.cell (p := ⟨b, _, none⟩) HY.out.1).trans HY.out.2.2.2.1
  have y3 := (HB1.out.cell (p := ⟨b, _, none⟩) HY.out.1).trans HY.out.2.2.2.2
  go_wp2_with fail
  go_region
  obtain ⟨w2, hw2⟩ : ∃ W, W = (w1.alloc (.cells #[.int .i64 10, .int .i64 ja, .int .i64 b', .int .i64 c] 36)).drew := ⟨_, rfl⟩
  have hb2 : Below w1.heap.size w1 w2 := by rw [hw2]; exact ext_drew (ext_alloc _ (Below.refl _ _))
  have HX2 : Hid (w2.heap[w1.heap.size]? = some (.cells #[.int .i64 10, .int .i64 ja, .int .i64 b', .int .i64 c] 36 (0, 0))) := Lib.hid (by rw [hw2]; exact alNew rfl)
  rw [← hw2]
  have HR2 := Lib.hid ((hb2.block _ (lt_of HR1.out)).trans HR1.out)
  have HB2 := Lib.hid (ext_trans HB1.out hb2)
  clear hw2 hb2 y0 y1 y2 y3 hbl t0 t1 t2 t3 t4 t5 t6 t7 t8 t9 hp hq c4 c5 c6 c7
  obtain ⟨hp, hq, _⟩ := (H.out.ext HB2.out).lt
  obtain ⟨c4, c5, c6, c7, _⟩ := HC.out _ HB2.out
  obtain ⟨x0, x1, x2, x3, xl⟩ := ins_cells (x := ⟨10, ja, b', c⟩) HX2.out
  dsimp only at x0 x1 x2 x3
  go_wp2_with fail
  go_region
  obtain ⟨w3, hw3⟩ : ∃ W, W = (w2.alloc (.cells #[.int .i64 i, .int .i64 k, .int .i64 10, .int .i64 (M.se i).wo, .int .i64 0, .int .i64 0, .int .i64 0] 42)).drew := ⟨_, rfl⟩
  have hb3 : Below w2.heap.size w2 w3 := by rw [hw3]; exact ext_drew (ext_alloc _ (Below.refl _ _))
  have HE3 : Hid (w3.heap[w2.heap.size]? = some (.cells #[.int .i64 i, .int .i64 k, .int .i64 10, .int .i64 (M.se i).wo, .int .i64 0, .int .i64 0, .int .i64 0] 42 (0, 0))) := Lib.hid (by rw [hw3]; exact alNew rfl)
  rw [← hw3]
  have HS3 : Hid (Sp w w3 lo hi p qs qo pm lm hm cs co P w1.heap.size w2.heap.size M ⟨10, ja, b', c⟩ ⟨i, k, 10, (M.se i).wo, 0, 0, 0⟩) := Lib.hid ⟨H.out.ext (ext_trans HB2.out hb3), HE3.out, (hb3.block _ (lt_of HR2.out)).trans HR2.out, (hb3.block _ (lt_of HX2.out)).trans HX2.out, Rg.of_below (ext_trans HB2.out hb3), H.out.sz, lt_of HR1.out, lt_of HX2.out⟩
  have HB3 := Lib.hid (ext_trans HB2.out hb3)
  clear hw3 hb3 x0 x1 x2 x3 xl hp hq c4 c5 c6 c7 HE3 HR1 HR2 HX2
  obtain ⟨c4, c5, c6, c7, cf⟩ := HC.out _ HB3.out
  generalize w2.heap.size = bE at *
  generalize w1.heap.size = bI at *
  obtain ⟨hp, hq, _⟩ := HS3.out.ma.lt
  obtain ⟨x0, x1, x2, x3, xl⟩ := ins_cells HS3.out.ins
  dsimp only at x0 x1 x2 x3
  obtain ⟨e0, e1, e2, e3, e4, e5, e6, ef, el⟩ := ev_cells HS3.out.ev
  dsimp only at e0 e1 e2 e3 e4 e5 e6
  have cf := (HS3.out.ma.sc i HI.out.1).2.2.2.2
  have hqE : qs ≠ bE := by have := HS3.out.sz; have := HS3.out.ma.bd; omega
  have rja := HS3.out.ma.reg i HI.out.1 ja HJA.out
  rw [HZ.out] at rja
  go_wp2_with fail
  go_region
  obtain ⟨w4, hw4⟩ : ∃ W, W = (w3.setCell ⟨bE, 5, none⟩ (.int .i64 0)).drew := ⟨_, rfl⟩
  have HS4 := Lib.hid ((HS3.out.va 0).ext (ext_drew (Below.refl _ _)))
  rw [← hw4] at HS4 ⊢
  clear hw4 hp hq x0 x1 x2 x3 xl e0 e1 e2 e3 e4 e5 e6 ef el cf
  (try clear rja)
  (try clear rjb)
  (try clear rjc)
  obtain ⟨hp, hq, _⟩ := HS4.out.ma.lt
  obtain ⟨x0, x1, x2, x3, xl⟩ := ins_cells HS4.out.ins
  dsimp only at x0 x1 x2 x3
  obtain ⟨e0, e1, e2, e3, e4, e5, e6, ef, el⟩ := ev_cells HS4.out.ev
  dsimp only at e0 e1 e2 e3 e4 e5 e6
  have cf := (HS4.out.ma.sc i HI.out.1).2.2.2.2
  have hqE : qs ≠ bE := by have := HS4.out.sz; have := HS4.out.ma.bd; omega
  go_wp2_with fail
  refine (aturn HS4.out.ma i HI.out.1 b' (by have := HI.out; omega) (by first | (have := HI.out.2.2; have := HLN.out; omega) | (rw [ps_setReg]; (try dsimp only); have := HI.out.2.2; have := HLN.out; omega) | (rw [ps_setWo]; (try dsimp only); have := HI.out.2.2; have := HLN.out; omega) | (dsimp only; have := HI.out.2.2; have := HLN.out; omega))).mono ?_
  rintro e wt ⟨⟨rr, rfl⟩, hmt, hrt⟩
  have HST := Lib.hid (HS4.out.rgm hrt hmt)
  clear hmt hrt
  (try clear e0 e1 e2 e3 e4 e5 e6 ef el)
  obtain ⟨e0, e1, e2, e3, e4, e5, e6, ef, el⟩ := ev_cells HST.out.ev
  obtain ⟨r0, r1, r2, r3, r4, r5, r6, rf, rl⟩ := ev_cells HST.out.rs
  dsimp only at e0 e1 e2 e3 e4 e5 e6
  go_wp2_with fail
  obtain ⟨w9, hw9⟩ : ∃ W, W = set7 wt w.heap.size (.int .i64 i) (.int .i64 k) (.int .i64 10) (.int .i64 (M.se i).wo) (.int .i64 0) (.int .i64 0) (.int .i64 0) := ⟨_, rfl⟩
  have hbk := set7_blk (.int .i64 i) (.int .i64 k) (.int .i64 10) (.int .i64 (M.se i).wo) (.int .i64 0) (.int .i64 0) (.int .i64 0) HST.out.rs
  have hrg := set7_rg wt w.heap.size (.int .i64 i) (.int .i64 k) (.int .i64 10) (.int .i64 (M.se i).wo) (.int .i64 0) (.int .i64 0) (.int .i64 0)
  rw [← hw9] at hbk hrg
  unfold set7 at hw9
  rw [← hw9]
  clear r0 r1 r2 r3 r4 r5 r6 rf rl hw9
  obtain ⟨r0, r1, r2, r3, r4, r5, r6, rf, rl⟩ := ev_cells hbk
  (try simp only [Exit.inBlock, Exit.then]); refine bodyPost_ret (by simp [results, Tryd.results34, go_sem, r0, r1, r2, r3, r4, r5, r6]; try rfl) rfl ?_
  exact ⟨rfl, HST.out.ma.rgm hrg HST.out.sz.1, HST.out.rg.bx hrg (Nat.le_refl _)⟩

set_option maxRecDepth 100000 in
set_option maxHeartbeats 2000000 in
theorem astep_nozero (h : Mk w lo hi p qs qo pm lm hm cs co P M) (hL : Lims w) (i k : Nat) (busy : Bool) (ja : Nat) (b' c : Int) (hja : ja < 4) (hi' : i < M.nc) (ha : (M.se i).a = k) (hk : k < (M.se i).ps.length) (hl : (M.se i).ps.length ≤ 32) (ho : (M.se i).ov = false) (hx : atI (M.se i).ps k = ⟨10, ja, b', c⟩) (hz : (M.se i).r ja ≠ 0) :
    Calls Tryd.prog 34 #[.pointer (some ⟨p, 0, none⟩), .int .i64 i, .bool busy] w fun e w' => e = .returned (.tuple #[.agg #[.int .i64 i, .int .i64 k, .int .i64 10, .int .i64 (M.se i).wo, .int .i64 0, .int .i64 ((M.se i).r ja), .int .i64 0], .int .i64 0]) ∧ Mk w' lo hi p qs qo pm lm hm cs co P (M.turn i ((k : Int) + 1)) ∧ Rg lo hi w w' := by
  have H := Lib.hid h
  have HL := Lib.hid hL
  obtain ⟨t0, t1, t2, t3, t4, t5, t6, t7, t8, t9⟩ := ten_at h.top
  obtain ⟨hp, hq, _⟩ := h.lt
  have hn := Ma.n_of h.mm.ok
  have hI := inB_yes (l := 0) (m := (M.nc : Int) - 1) (x := i) (by omega)
  have hn1 : 1 ≤ (M.nc : Int) := by omega
  have hn2 : (M.nc : Int) ≤ 4 := by omega
  have hii : (i : Int) < (M.nc : Int) := by omega
  have hi4 : (i : Int) < 4 := by omega
  obtain ⟨A, cap, hP, hS, _⟩ := (h.pg i hi').1
  obtain ⟨b, off, hA, hbl, hcs⟩ := hS (by omega)
  subst hA
  have hck := hcs k hk
  rw [hx] at hck
  dsimp only at hck
  obtain ⟨y0, y1, y2, y3⟩ := hck
  clear hcs
  have hkl : (k : Int) < ((M.se i).ps.length : Int) := by omega
  have hk32 : (k : Int) ≤ 32 := by omega
  have HC := Lib.hid (fun (W : World) (hb : Below w.heap.size w W) => (h.ext hb).sc i hi')
  rw [ha, ho, hP] at HC
  have HY := Lib.hid (And.intro hbl (And.intro y0 (And.intro y1 (And.intro y2 y3))))
  have HI := Lib.hid (And.intro hi' (And.intro hk hl))
  have HJA := Lib.hid hja
  have hja4 : (ja : Int) < 4 := by omega
  clear hja
  have hz0 : ((M.se i).r ja == 0) = false := by simpa using hz
  clear hz
  clear h hL hn hi' ha hk hl ho hx hP hS y0 y1 y2 y3 hbl
  generalize hln : (M.se i).ps.length = ln at *
  have HLN := Lib.hid hln
  clear hln
  go_enter Tryd.func34, Tryd.ntmps34
  go_wp2_with fail
  refine (within_new _ _ _ _ _ _ (by simp)).mono ?_
  rintro e wx ⟨rfl, hw⟩
  rw [hw]
  clear hw
  obtain ⟨w1, hw1⟩ : ∃ W, W = (w.alloc (.cells #[.int .i64 0, .int .i64 0, .int .i64 0, .int .i64 0, .int .i64 0, .int .i64 0, .int .i64 0] 42)).alloc (.cells #[.int .i64 i] 3) := ⟨_, rfl⟩
  have hb1 : Below w.heap.size w w1 := by rw [hw1]; exact (by repeat (with_reducible first | exact Below.refl _ _ | assumption | (refine ext_next (by assumption) ?_) | apply ext_alloc | apply ext_past | apply ext_drew | apply ext_drewN))
  have HR1 : Hid (w1.heap[w.heap.size]? = some (.cells #[.int .i64 0, .int .i64 0, .int .i64 0, .int .i64 0, .int .i64 0, .int .i64 0, .int .i64 0] 42 (0, 0))) := Lib.hid (by rw [hw1]; exact alOld (alNew rfl))
  rw [← hw1]
  have HB1 := Lib.hid hb1
  clear hw1 hb1 t0 t1 t2 t3 t4 t5 t6 t7 t8 t9 hp hq
  obtain ⟨t0, t1, t2, t3, t4, t5, t6, t7, t8, t9⟩ := ten_at (H.out.ext HB1.out).top
  obtain ⟨hp, hq, _⟩ := (H.out.ext HB1.out).lt
  obtain ⟨c4, c5, c6, c7, _⟩ := HC.out _ HB1.out
  have hbl := Nat.lt_of_lt_of_le HY.out.1 HB1.out.size
  have y0 := (HB1.out.cell (p := ⟨b, _, none⟩) HY.out.1).trans HY.out.2.1
  have y1 := (HB1.out.cell (p := ⟨b, _, none⟩) HY.out.1).trans HY.out.2.2.1
  have y2 := (HB1.out.cell (p := ⟨b, _, none⟩) HY.out.1).trans HY.out.2.2.2.1
  have y3 := (HB1.out.cell (p := ⟨b, _, none⟩) HY.out.1).trans HY.out.2.2.2.2
  go_wp2_with fail
  go_region
  obtain ⟨w2, hw2⟩ : ∃ W, W = (w1.alloc (.cells #[.int .i64 10, .int .i64 ja, .int .i64 b', .int .i64 c] 36)).drew := ⟨_, rfl⟩
  have hb2 : Below w1.heap.size w1 w2 := by rw [hw2]; exact ext_drew (ext_alloc _ (Below.refl _ _))
  have HX2 : Hid (w2.heap[w1.heap.size]? = some (.cells #[.int .i64 10, .int .i64 ja, .int .i64 b', .int .i64 c] 36 (0, 0))) := Lib.hid (by rw [hw2]; exact alNew rfl)
  rw [← hw2]
  have HR2 := Lib.hid ((hb2.block _ (lt_of HR1.out)).trans HR1.out)
  have HB2 := Lib.hid (ext_trans HB1.out hb2)
  clear hw2 hb2 y0 y1 y2 y3 hbl t0 t1 t2 t3 t4 t5 t6 t7 t8 t9 hp hq c4 c5 c6 c7
  obtain ⟨hp, hq, _⟩ := (H.out.ext HB2.out).lt
  obtain ⟨c4, c5, c6, c7, _⟩ := HC.out _ HB2.out
  obtain ⟨x0, x1, x2, x3, xl⟩ := ins_cells (x := ⟨10, ja, b', c⟩) HX2.out
  dsimp only at x0 x1 x2 x3
  go_wp2_with fail
  go_region
  obtain ⟨w3, hw3⟩ : ∃ W, W = (w2.alloc (.cells #[.int .i64 i, .int .i64 k, .int .i64 10, .int .i64 (M.se i).wo, .int .i64 0, .int .i64 0, .int .i64 0] 42)).drew := ⟨_, rfl⟩
  have hb3 : Below w2.heap.size w2 w3 := by rw [hw3]; exact ext_drew (ext_alloc _ (Below.refl _ _))
  have HE3 : Hid (w3.heap[w2.heap.size]? = some (.cells #[.int .i64 i, .int .i64 k, .int .i64 10, .int .i64 (M.se i).wo, .int .i64 0, .int .i64 0, .int .i64 0] 42 (0, 0))) := Lib.hid (by rw [hw3]; exact alNew rfl)
  rw [← hw3]
  have HS3 : Hid (Sp w w3 lo hi p qs qo pm lm hm cs co P w1.heap.size w2.heap.size M ⟨10, ja, b', c⟩ ⟨i, k, 10, (M.se i).wo, 0, 0, 0⟩) := Lib.hid ⟨H.out.ext (ext_trans HB2.out hb3), HE3.out, (hb3.block _ (lt_of HR2.out)).trans HR2.out, (hb3.block _ (lt_of HX2.out)).trans HX2.out, Rg.of_below (ext_trans HB2.out hb3), H.out.sz, lt_of HR1.out, lt_of HX2.out⟩
  have HB3 := Lib.hid (ext_trans HB2.out hb3)
  clear hw3 hb3 x0 x1 x2 x3 xl hp hq c4 c5 c6 c7 HE3 HR1 HR2 HX2
  obtain ⟨c4, c5, c6, c7, cf⟩ := HC.out _ HB3.out
  generalize w2.heap.size = bE at *
  generalize w1.heap.size = bI at *
  obtain ⟨hp, hq, _⟩ := HS3.out.ma.lt
  obtain ⟨x0, x1, x2, x3, xl⟩ := ins_cells HS3.out.ins
  dsimp only at x0 x1 x2 x3
  obtain ⟨e0, e1, e2, e3, e4, e5, e6, ef, el⟩ := ev_cells HS3.out.ev
  dsimp only at e0 e1 e2 e3 e4 e5 e6
  have cf := (HS3.out.ma.sc i HI.out.1).2.2.2.2
  have hqE : qs ≠ bE := by have := HS3.out.sz; have := HS3.out.ma.bd; omega
  have rja := HS3.out.ma.reg i HI.out.1 ja HJA.out
  go_wp2_with fail
  go_region
  obtain ⟨w4, hw4⟩ : ∃ W, W = (w3.setCell ⟨bE, 5, none⟩ (.int .i64 ((M.se i).r ja))).drew := ⟨_, rfl⟩
  have HS4 := Lib.hid ((HS3.out.va ((M.se i).r ja)).ext (ext_drew (Below.refl _ _)))
  rw [← hw4] at HS4 ⊢
  clear hw4 hp hq x0 x1 x2 x3 xl e0 e1 e2 e3 e4 e5 e6 ef el cf
  (try clear rja)
  (try clear rjb)
  (try clear rjc)
  obtain ⟨hp, hq, _⟩ := HS4.out.ma.lt
  obtain ⟨x0, x1, x2, x3, xl⟩ := ins_cells HS4.out.ins
  dsimp only at x0 x1 x2 x3
  obtain ⟨e0, e1, e2, e3, e4, e5, e6, ef, el⟩ := ev_cells HS4.out.ev
  dsimp only at e0 e1 e2 e3 e4 e5 e6
  have cf := (HS4.out.ma.sc i HI.out.1).2.2.2.2
  have hqE : qs ≠ bE := by have := HS4.out.sz; have := HS4.out.ma.bd; omega
  go_wp2_with fail
  refine (aturn HS4.out.ma i HI.out.1 ((k : Int) + 1) (by have := HI.out; omega) (by first | (have := HI.out.2.2; have := HLN.out; omega) | (rw [ps_setReg]; (try dsimp only); have := HI.out.2.2; have := HLN.out; omega) | (rw [ps_setWo]; (try dsimp only); have := HI.out.2.2; have := HLN.out; omega) | (dsimp only; have := HI.out.2.2; have := HLN.out; omega))).mono ?_
  rintro e wt ⟨⟨rr, rfl⟩, hmt, hrt⟩
  have HST := Lib.hid (HS4.out.rgm hrt hmt)
  clear hmt hrt
  (try clear e0 e1 e2 e3 e4 e5 e6 ef el)
  obtain ⟨e0, e1, e2, e3, e4, e5, e6, ef, el⟩ := ev_cells HST.out.ev
  obtain ⟨r0, r1, r2, r3, r4, r5, r6, rf, rl⟩ := ev_cells HST.out.rs
  dsimp only at e0 e1 e2 e3 e4 e5 e6
  go_wp2_with fail
  obtain ⟨w9, hw9⟩ : ∃ W, W = set7 wt w.heap.size (.int .i64 i) (.int .i64 k) (.int .i64 10) (.int .i64 (M.se i).wo) (.int .i64 0) (.int .i64 ((M.se i).r ja)) (.int .i64 0) := ⟨_, rfl⟩
  have hbk := set7_blk (.int .i64 i) (.int .i64 k) (.int .i64 10) (.int .i64 (M.se i).wo) (.int .i64 0) (.int .i64 ((M.se i).r ja)) (.int .i64 0) HST.out.rs
  have hrg := set7_rg wt w.heap.size (.int .i64 i) (.int .i64 k) (.int .i64 10) (.int .i64 (M.se i).wo) (.int .i64 0) (.int .i64 ((M.se i).r ja)) (.int .i64 0)
  rw [← hw9] at hbk hrg
  unfold set7 at hw9
  rw [← hw9]
  clear r0 r1 r2 r3 r4 r5 r6 rf rl hw9
  obtain ⟨r0, r1, r2, r3, r4, r5, r6, rf, rl⟩ := ev_cells hbk
  (try simp only [Exit.inBlock, Exit.then]); refine bodyPost_ret (by simp [results, Tryd.results34, go_sem, r0, r1, r2, r3, r4, r5, r6]; try rfl) rfl ?_
  exact ⟨rfl, HST.out.ma.rgm hrg HST.out.sz.1, HST.out.rg.bx hrg (Nat.le_refl _)⟩
end

end Go.Proofs.YtkobeajbiendlaaDoor
