/- What this text holds: a machine's Step: accesses of memory. Condition: the table of limits holds what its initialiser lays. -/
import Derived.Test.YtkobeajbiendlaaDoorAtD
namespace Go.Proofs.YtkobeajbiendlaaDoor
open Go.RowKit

section
variable {w : World} {lo hi p qs qo pm lm hm cs co : Nat} {P : Nat → Value} {M : Ma}
set_option maxRecDepth 100000 in
set_option maxHeartbeats 2000000 in
theorem astep_fault3 (h : Mk w lo hi p qs qo pm lm hm cs co P M) (hL : Lims w) (i k : Nat) (busy : Bool) (ja jb : Nat) (c : Int) (hjb : jb < 4) (hi' : i < M.nc) (ha : (M.se i).a = k) (hk : k < (M.se i).ps.length) (hl : (M.se i).ps.length ≤ 32) (ho : (M.se i).ov = false) (hx : atI (M.se i).ps k = ⟨3, ja, jb, c⟩) (hmay : M.may (M.se i).wo ((M.se i).r jb) = false) :
    Calls Tryd.prog 34 #[.pointer (some ⟨p, 0, none⟩), .int .i64 i, .bool busy] w fun e w' => e = .returned (.tuple #[.agg #[.int .i64 i, .int .i64 k, .int .i64 3, .int .i64 (M.se i).wo, .int .i64 ((M.se i).r jb), .int .i64 0, .int .i64 19], .int .i64 0]) ∧ Mk w' lo hi p qs qo pm lm hm cs co P (M.turn i ((k : Int) + 1)) ∧ Rg lo hi w w' := by
  have H := Lib.hid h
  have HL := Lib.hid hL
  obtain ⟨t0, t1, t2, t3, t4, t5, t6, t7, t8, t9⟩ := ten_at h.top
  obtain ⟨hp, hq, _⟩ := h.lt
  have hn := Ma.n_of h.mm.ok
  have hI := inB_yes (l := 0) (m := (M.nc : Int) - 1) (x := i) (by omega)
  have hn1 : 1 ≤ (M.nc : Int) := by omega
  have hn2 : (M.nc : Int) ≤ 4 := by omega
  have hii : (i : Int) < (M.nc : Int) := by omega
  have hi4 : (i : Int) < 4 := by omega
  obtain ⟨A, cap, hP, hS, _⟩ := (h.pg i hi').1
  obtain ⟨b, off, hA, hbl, hcs⟩ := hS (by omega)
  subst hA
  have hck := hcs k hk
  rw [hx] at hck
  dsimp only at hck
  obtain ⟨y0, y1, y2, y3⟩ := hck
  clear hcs
  have hkl : (k : Int) < ((M.se i).ps.length : Int) := by omega
  have hk32 : (k : Int) ≤ 32 := by omega
  have HC := Lib.hid (fun (W : World) (hb : Below w.heap.size w W) => (h.ext hb).sc i hi')
  rw [ha, ho, hP] at HC
  have HY := Lib.hid (And.intro hbl (And.intro y0 (And.intro y1 (And.intro y2 y3))))
  have HI := Lib.hid (And.intro hi' (And.intro hk hl))
  have HJB := Lib.hid hjb
  have hjb4 : (jb : Int) < 4 := by omega
  clear hjb
  have HMY := Lib.hid hmay
  clear hmay
  clear h hL hn hi' ha hk hl ho hx hP hS y0 y1 y2 y3 hbl
  generalize hln : (M.se i).ps.length = ln at *
  have HLN := Lib.hid hln
  clear hln
  go_enter Tryd.func34, Tryd.ntmps34
  go_wp2_with fail
  refine (within_new _ _ _ _ _ _ (by simp)).mono ?_
  rintro e wx ⟨rfl, hw⟩
  rw [hw]
  clear hw
  obtain ⟨w1, hw1⟩ : ∃ W, W = (w.alloc (.cells #[.int .i64 0, .int .i64 0, .int .i64 0, .int .i64 0, .int .i64 0, .int .i64 0, .int .i64 0] 42)).alloc (.cells #[.int .i64 i] 3) := ⟨_, rfl⟩
  have hb1 : Below w.heap.size w w1 := by rw [hw1]; exact (by repeat (with_reducible first | exact Below.refl _ _ | assumption | (refine ext_next (by assumption) ?_) | apply ext_alloc | apply ext_past | apply ext_drew | apply ext_drewN))
  have HR1 : Hid (w1.heap[w.heap.size]? = some (.cells #[.int .i64 0, .int .i64 0, .int .i64 0, .int .i64 0, .int .i64 0, .int .i64 0, .int .i64 0] 42 (0, 0))) := Lib.hid (by rw [hw1]; exact alOld (alNew rfl))
  rw [← hw1]
  have HB1 := Lib.hid hb1
  clear hw1 hb1 t0 t1 t2 t3 t4 t5 t6 t7 t8 t9 hp hq
  obtain ⟨t0, t1, t2, t3, t4, t5, t6, t7, t8, t9⟩ := ten_at (H.out.ext HB1.out).top
  obtain ⟨hp, hq, _⟩ := (H.out.ext HB1.out).lt
  obtain ⟨c4, c5, c6, c7, _⟩ := HC.out _ HB1.out
  have hbl := Nat.lt_of_lt_of_le HY.out.1 HB1.out.size
  have y0 := (HB1.out.cell (p := ⟨b, _, none⟩) HY.out.1).trans HY.out.2.1
  have y1 := (HB1.out.cell (p := ⟨b, _, none⟩) HY.out.1).trans HY.out.2.2.1
  have y2 := (HB1.out.cell (p := ⟨b, _, none⟩) HY.out.1).trans HY.out.2.2.2.1
  have y3 := (HB1.out.cell (p := ⟨b, _, none⟩) HY.out.1).trans HY.out.2.2.2.2
  go_wp2_with fail
  go_region
  obtain ⟨w2, hw2⟩ : ∃ W, W = (w1.alloc (.cells #[.int .i64 3, .int .i64 ja, .int .i64 jb, .int .i64 c] 36)).drew := ⟨_, rfl⟩
  have hb2 : Below w1.heap.size w1 w2 := by rw [hw2]; exact ext_drew (ext_alloc _ (Below.refl _ _))
  have HX2 : Hid (w2.heap[w1.heap.size]? = some (.cells #[.int .i64 3, .int .i64 ja, .int .i64 jb, .int .i64 c] 36 (0, 0))) := Lib.hid (by rw [hw2]; exact alNew rfl)
  rw [← hw2]
  have HR2 := Lib.hid ((hb2.block _ (lt_of HR1.out)).trans HR1.out)
  have HB2 := Lib.hid (ext_trans HB1.out hb2)
  clear hw2 hb2 y0 y1 y2 y3 hbl t0 t1 t2 t3 t4 t5 t6 t7 t8 t9 hp hq c4 c5 c6 c7
  obtain ⟨hp, hq, _⟩ := (H.out.ext HB2.out).lt
  obtain ⟨c4, c5, c6, c7, _⟩ := HC.out _ HB2.out
  obtain ⟨x0, x1, x2, x3, xl⟩ := ins_cells (x := ⟨3, ja, jb, c⟩) HX2.out
  dsimp only at x0 x1 x2 x3
  go_wp2_with fail
  go_region
  obtain ⟨w3, hw3⟩ : ∃ W, W = (w2.alloc (.cells #[.int .i64 i, .int .i64 k, .int .i64 3, .int .i64 (M.se i).wo, .int .i64 0, .int .i64 0, .int .i64 0] 42)).drew := ⟨_, rfl⟩
  have hb3 : Below w2.heap.size w2 w3 := by rw [hw3]; exact ext_drew (ext_alloc _ (Below.refl _ _))
  have HE3 : Hid (w3.heap[w2.heap.size]? = some (.cells #[.int .i64 i, .int .i64 k, .int .i64 3, .int .i64 (M.se i).wo, .int .i64 0, .int .i64 0, .int .i64 0] 42 (0, 0))) := Lib.hid (by rw [hw3]; exact alNew rfl)
  rw [← hw3]
  have HS3 : Hid (Sp w w3 lo hi p qs qo pm lm hm cs co P w1.heap.size w2.heap.size M ⟨3, ja, jb, c⟩ ⟨i, k, 3, (M.se i).wo, 0, 0, 0⟩) := Lib.hid ⟨H.out.ext (ext_trans HB2.out hb3), HE3.out, (hb3.block _ (lt_of HR2.out)).trans HR2.out, (hb3.block _ (lt_of HX2.out)).trans HX2.out, Rg.of_below (ext_trans HB2.out hb3), H.out.sz, lt_of HR1.out, lt_of HX2.out⟩
  have HB3 := Lib.hid (ext_trans HB2.out hb3)
  clear hw3 hb3 x0 x1 x2 x3 xl hp hq c4 c5 c6 c7 HE3 HR1 HR2 HX2
  obtain ⟨c4, c5, c6, c7, cf⟩ := HC.out _ HB3.out
  generalize w2.heap.size = bE at *
  generalize w1.heap.size = bI at *
  obtain ⟨hp, hq, _⟩ := HS3.out.ma.lt
  obtain ⟨x0, x1, x2, x3, xl⟩ := ins_cells HS3.out.ins
  dsimp only at x0 x1 x2 x3
  obtain ⟨e0, e1, e2, e3, e4, e5, e6, ef, el⟩ := ev_cells HS3.out.ev
  dsimp only at e0 e1 e2 e3 e4 e5 e6
  have cf := (HS3.out.ma.sc i HI.out.1).2.2.2.2
  have hqE : qs ≠ bE := by have := HS3.out.sz; have := HS3.out.ma.bd; omega
  have rjb := HS3.out.ma.reg i HI.out.1 jb HJB.out
  go_wp2_with fail
  go_region
  obtain ⟨w4, hw4⟩ : ∃ W, W = (w3.setCell ⟨bE, 4, none⟩ (.int .i64 ((M.se i).r jb))).drew := ⟨_, rfl⟩
  have HS4 := Lib.hid ((HS3.out.wd ((M.se i).r jb)).ext (ext_drew (Below.refl _ _)))
  rw [← hw4] at HS4 ⊢
  clear hw4 hp hq x0 x1 x2 x3 xl e0 e1 e2 e3 e4 e5 e6 ef el cf
  (try clear rja)
  (try clear rjb)
  (try clear rjc)
  obtain ⟨hp, hq, _⟩ := HS4.out.ma.lt
  obtain ⟨x0, x1, x2, x3, xl⟩ := ins_cells HS4.out.ins
  dsimp only at x0 x1 x2 x3
  obtain ⟨e0, e1, e2, e3, e4, e5, e6, ef, el⟩ := ev_cells HS4.out.ev
  dsimp only at e0 e1 e2 e3 e4 e5 e6
  have cf := (HS4.out.ma.sc i HI.out.1).2.2.2.2
  have hqE : qs ≠ bE := by have := HS4.out.sz; have := HS4.out.ma.bd; omega
  go_wp2_with fail
  refine (aacc_no HS4.out.ma (HL.out.keepR HS4.out.rg H.out.gl) i HI.out.1 3 ja c jb HJB.out (by decide) HMY.out).mono ?_
  rintro e w5 ⟨rfl, hr5⟩
  have HS5 := Lib.hid (HS4.out.ext hr5)
  clear hr5 hp hq x0 x1 x2 x3 xl e0 e1 e2 e3 e4 e5 e6 ef el cf
  obtain ⟨hp, hq, _⟩ := HS5.out.ma.lt
  obtain ⟨x0, x1, x2, x3, xl⟩ := ins_cells HS5.out.ins
  dsimp only at x0 x1 x2 x3
  obtain ⟨e0, e1, e2, e3, e4, e5, e6, ef, el⟩ := ev_cells HS5.out.ev
  dsimp only at e0 e1 e2 e3 e4 e5 e6
  have cf := (HS5.out.ma.sc i HI.out.1).2.2.2.2
  have hqE : qs ≠ bE := by have := HS5.out.sz; have := HS5.out.ma.bd; omega
  go_wp2_with fail
  obtain ⟨w6, hw6⟩ : ∃ W, W = (w5.setCell ⟨bE, 5, none⟩ (.int .i64 0)).setCell ⟨bE, 6, none⟩ (.int .i64 19) := ⟨_, rfl⟩
  have HS6 := Lib.hid ((HS5.out.va 0).cd 19)
  rw [← hw6] at HS6 ⊢
  clear hw6 hp hq x0 x1 x2 x3 xl e0 e1 e2 e3 e4 e5 e6 ef el cf
  (try clear rja)
  (try clear rjb)
  (try clear rjc)
  refine (aturn HS6.out.ma i HI.out.1 ((k : Int) + 1) (by have := HI.out; omega) (by first | (have := HI.out.2.2; have := HLN.out; omega) | (rw [ps_setReg]; (try dsimp only); have := HI.out.2.2; have := HLN.out; omega) | (rw [ps_setWo]; (try dsimp only); have := HI.out.2.2; have := HLN.out; omega) | (dsimp only; have := HI.out.2.2; have := HLN.out; omega))).mono ?_
  rintro e wt ⟨⟨rr, rfl⟩, hmt, hrt⟩
  have HST := Lib.hid (HS6.out.rgm hrt hmt)
  clear hmt hrt
  (try clear e0 e1 e2 e3 e4 e5 e6 ef el)
  obtain ⟨e0, e1, e2, e3, e4, e5, e6, ef, el⟩ := ev_cells HST.out.ev
  obtain ⟨r0, r1, r2, r3, r4, r5, r6, rf, rl⟩ := ev_cells HST.out.rs
  dsimp only at e0 e1 e2 e3 e4 e5 e6
  go_wp2_with fail
  obtain ⟨w9, hw9⟩ : ∃ W, W = set7 wt w.heap.size (.int .i64 i) (.int .i64 k) (.int .i64 3) (.int .i64 (M.se i).wo) (.int .i64 ((M.se i).r jb)) (.int .i64 0) (.int .i64 19) := ⟨_, rfl⟩
  have hbk := set7_blk (.int .i64 i) (.int .i64 k) (.int .i64 3) (.int .i64 (M.se i).wo) (.int .i64 ((M.se i).r jb)) (.int .i64 0) (.int .i64 19) HST.out.rs
  have hrg := set7_rg wt w.heap.size (.int .i64 i) (.int .i64 k) (.int .i64 3) (.int .i64 (M.se i).wo) (.int .i64 ((M.se i).r jb)) (.int .i64 0) (.int .i64 19)
  rw [← hw9] at hbk hrg
  unfold set7 at hw9
  rw [← hw9]
  clear r0 r1 r2 r3 r4 r5 r6 rf rl hw9
  obtain ⟨r0, r1, r2, r3, r4, r5, r6, rf, rl⟩ := ev_cells hbk
  (try simp only [Exit.inBlock, Exit.then]); refine bodyPost_ret (by simp [results, Tryd.results34, go_sem, r0, r1, r2, r3, r4, r5, r6]; try rfl) rfl ?_
  exact ⟨rfl, HST.out.ma.rgm hrg HST.out.sz.1, HST.out.rg.bx hrg (Nat.le_refl _)⟩

set_option maxRecDepth 100000 in
set_option maxHeartbeats 2000000 in
theorem astep_fault4 (h : Mk w lo hi p qs qo pm lm hm cs co P M) (hL : Lims w) (i k : Nat) (busy : Bool) (ja jb : Nat) (c : Int) (hjb : jb < 4) (hi' : i < M.nc) (ha : (M.se i).a = k) (hk : k < (M.se i).ps.length) (hl : (M.se i).ps.length ≤ 32) (ho : (M.se i).ov = false) (hx : atI (M.se i).ps k = ⟨4, ja, jb, c⟩) (hmay : M.may (M.se i).wo ((M.se i).r jb) = false) :
    Calls Tryd.prog 34 #[.pointer (some ⟨p, 0, none⟩), .int .i64 i, .bool busy] w fun e w' => e = .returned (.tuple #[.agg #[.int .i64 i, .int .i64 k, .int .i64 4, .int .i64 (M.se i).wo, .int .i64 ((M.se i).r jb), .int .i64 0, .int .i64 19], .int .i64 0]) ∧ Mk w' lo hi p qs qo pm lm hm cs co P (M.turn i ((k : Int) + 1)) ∧ Rg lo hi w w' := by
  have H := Lib.hid h
  have HL := Lib.hid hL
  obtain ⟨t0, t1, t2, t3, t4, t5, t6, t7, t8, t9⟩ := ten_at h.top
  obtain ⟨hp, hq, _⟩ := h.lt
  have hn := Ma.n_of h.mm.ok
  have hI := inB_yes (l := 0) (m := (M.nc : Int) - 1) (x := i) (by omega)
  have hn1 : 1 ≤ (M.nc : Int) := by omega
  have hn2 : (M.nc : Int) ≤ 4 := by omega
  have hii : (i : Int) < (M.nc : Int) := by omega
  have hi4 : (i : Int) < 4 := by omega
  obtain ⟨A, cap, hP, hS, _⟩ := (h.pg i hi').1
  obtain ⟨b, off, hA, hbl, hcs⟩ := hS (by omega)
  subst hA
  have hck := hcs k hk
  rw [hx] at hck
  dsimp only at hck
  obtain ⟨y0, y1, y2, y3⟩ := hck
  clear hcs
  have hkl : (k : Int) < ((M.se i).ps.length : Int) := by omega
  have hk32 : (k : Int) ≤ 32 := by omega
  have HC := Lib.hid (fun (W : World) (hb : Below w.heap.size w W) => (h.ext hb).sc i hi')
  rw [ha, ho, hP] at HC
  have HY := Lib.hid (And.intro hbl (And.intro y0 (And.intro y1 (And.intro y2 y3))))
  have HI := Lib.hid (And.intro hi' (And.intro hk hl))
  have HJB := Lib.hid hjb
  have hjb4 : (jb : Int) < 4 := by omega
  clear hjb
  have HMY := Lib.hid hmay
  clear hmay
  clear h hL hn hi' ha hk hl ho hx hP hS y0 y1 y2 y3 hbl
  generalize hln : (M.se i).ps.length = ln at *
  have HLN := Lib.hid hln
  clear hln
  go_enter Tryd.func34, Tryd.ntmps34
  go_wp2_with fail
  refine (within_new _ _ _ _ _ _ (by simp)).mono ?_
  rintro e wx ⟨rfl, hw⟩
  rw [hw]
  clear hw
  obtain ⟨w1, hw1⟩ : ∃ W, W = (w.alloc (.cells #[.int .i64 0, .int .i64 0, .int .i64 0, .int .i64 0, .int .i64 0, .int .i64 0, .int .i64 0] 42)).alloc (.cells #[.int .i64 i] 3) := ⟨_, rfl⟩
  have hb1 : Below w.heap.size w w1 := by rw [hw1]; exact (by repeat (with_reducible first | exact Below.refl _ _ | assumption | (refine ext_next (by assumption) ?_) | apply ext_alloc | apply ext_past | apply ext_drew | apply ext_drewN))
  have HR1 : Hid (w1.heap[w.heap.size]? = some (.cells #[.int .i64 0, .int .i64 0, .int .i64 0, .int .i64 0, .int .i64 0, .int .i64 0, .int .i64 0] 42 (0, 0))) := Lib.hid (by rw [hw1]; exact alOld (alNew rfl))
  rw [← hw1]
  have HB1 := Lib.hid hb1
  clear hw1 hb1 t0 t1 t2 t3 t4 t5 t6 t7 t8 t9 hp hq
  obtain ⟨t0, t1, t2, t3, t4, t5, t6, t7, t8, t9⟩ := ten_at (H.out.ext HB1.out).top
  obtain ⟨hp, hq, _⟩ := (H.out.ext HB1.out).lt
  obtain ⟨c4, c5, c6, c7, _⟩ := HC.out _ HB1.out
  have hbl := Nat.lt_of_lt_of_le HY.out.1 HB1.out.size
  have y0 := (HB1.out.cell (p := ⟨b, _, none⟩) HY.out.1).trans HY.out.2.1
  have y1 := (HB1.out.cell (p := ⟨b, _, none⟩) HY.out.1).trans HY.out.2.2.1
  have y2 := (HB1.out.cell (p := ⟨b, _, none⟩) HY.out.1).trans HY.out.2.2.2.1
  have y3 := (HB1.out.cell (p := ⟨b, _, none⟩) HY.out.1).trans HY.out.2.2.2.2
  go_wp2_with fail
  go_region
  obtain ⟨w2, hw2⟩ : ∃ W, W = (w1.alloc (.cells #[.int .i64 4, .int .i64 ja, .int .i64 jb, .int .i64 c] 36)).drew := ⟨_, rfl⟩
  have hb2 : Below w1.heap.size w1 w2 := by rw [hw2]; exact ext_drew (ext_alloc _ (Below.refl _ _))
  have HX2 : Hid (w2.heap[w1.heap.size]? = some (.cells #[.int .i64 4, .int .i64 ja, .int .i64 jb, .int .i64 c] 36 (0, 0))) := Lib.hid (by rw [hw2]; exact alNew rfl)
  rw [← hw2]
  have HR2 := Lib.hid ((hb2.block _ (lt_of HR1.out)).trans HR1.out)
  have HB2 := Lib.hid (ext_trans HB1.out hb2)
  clear hw2 hb2 y0 y1 y2 y3 hbl t0 t1 t2 t3 t4 t5 t6 t7 t8 t9 hp hq c4 c5 c6 c7
  obtain ⟨hp, hq, _⟩ := (H.out.ext HB2.out).lt
  obtain ⟨c4, c5, c6, c7, _⟩ := HC.out _ HB2.out
  obtain ⟨x0, x1, x2, x3, xl⟩ := ins_cells (x := ⟨4, ja, jb, c⟩) HX2.out
  dsimp only at x0 x1 x2 x3
  go_wp2_with fail
  go_region
  obtain ⟨w3, hw3⟩ : ∃ W, W = (w2.alloc (.cells #[.int .i64 i, .int .i64 k, .int .i64 4, .int .i64 (M.se i).wo, .int .i64 0, .int .i64 0, .int .i64 0] 42)).drew := ⟨_, rfl⟩
  have hb3 : Below w2.heap.size w2 w3 := by rw [hw3]; exact ext_drew (ext_alloc _ (Below.refl _ _))
  have HE3 : Hid (w3.heap[w2.heap.size]? = some (.cells #[.int .i64 i, .int .i64 k, .int .i64 4, .int .i64 (M.se i).wo, .int .i64 0, .int .i64 0, .int .i64 0] 42 (0, 0))) := Lib.hid (by rw [hw3]; exact alNew rfl)
  rw [← hw3]
  have HS3 : Hid (Sp w w3 lo hi p qs qo pm lm hm cs co P w1.heap.size w2.heap.size M ⟨4, ja, jb, c⟩ ⟨i, k, 4, (M.se i).wo, 0, 0, 0⟩) := Lib.hid ⟨H.out.ext (ext_trans HB2.out hb3), HE3.out, (hb3.block _ (lt_of HR2.out)).trans HR2.out, (hb3.block _ (lt_of HX2.out)).trans HX2.out, Rg.of_below (ext_trans HB2.out hb3), H.out.sz, lt_of HR1.out, lt_of HX2.out⟩
  have HB3 := Lib.hid (ext_trans HB2.out hb3)
  clear hw3 hb3 x0 x1 x2 x3 xl hp hq c4 c5 c6 c7 HE3 HR1 HR2 HX2
  obtain ⟨c4, c5, c6, c7, cf⟩ := HC.out _ HB3.out
  generalize w2.heap.size = bE at *
  generalize w1.heap.size = bI at *
  obtain ⟨hp, hq, _⟩ := HS3.out.ma.lt
  obtain ⟨x0, x1, x2, x3, xl⟩ := ins_cells HS3.out.ins
  dsimp only at x0 x1 x2 x3
  obtain ⟨e0, e1, e2, e3, e4, e5, e6, ef, el⟩ := ev_cells HS3.out.ev
  dsimp only at e0 e1 e2 e3 e4 e5 e6
  have cf := (HS3.out.ma.sc i HI.out.1).2.2.2.2
  have hqE : qs ≠ bE := by have := HS3.out.sz; have := HS3.out.ma.bd; omega
  have rjb := HS3.out.ma.reg i HI.out.1 jb HJB.out
  go_wp2_with fail
  go_region
  obtain ⟨w4, hw4⟩ : ∃ W, W = (w3.setCell ⟨bE, 4, none⟩ (.int .i64 ((M.se i).r jb))).drew := ⟨_, rfl⟩
  have HS4 := Lib.hid ((HS3.out.wd ((M.se i).r jb)).ext (ext_drew (Below.refl _ _)))
  rw [← hw4] at HS4 ⊢
  clear hw4 hp hq x0 x1 x2 x3 xl e0 e1 e2 e3 e4 e5 e6 ef el cf
  (try clear rja)
  (try clear rjb)
  (try clear rjc)
  obtain ⟨hp, hq, _⟩ := HS4.out.ma.lt
  obtain ⟨x0, x1, x2, x3, xl⟩ := ins_cells HS4.out.ins
  dsimp only at x0 x1 x2 x3
  obtain ⟨e0, e1, e2, e3, e4, e5, e6, ef, el⟩ := ev_cells HS4.out.ev
  dsimp only at e0 e1 e2 e3 e4 e5 e6
  have cf := (HS4.out.ma.sc i HI.out.1).2.2.2.2
  have hqE : qs ≠ bE := by have := HS4.out.sz; have := HS4.out.ma.bd; omega
  go_wp2_with fail
  refine (aacc_no HS4.out.ma (HL.out.keepR HS4.out.rg H.out.gl) i HI.out.1 4 ja c jb HJB.out (by decide) HMY.out).mono ?_
  rintro e w5 ⟨rfl, hr5⟩
  have HS5 := Lib.hid (HS4.out.ext hr5)
  clear hr5 hp hq x0 x1 x2 x3 xl e0 e1 e2 e3 e4 e5 e6 ef el cf
  obtain ⟨hp, hq, _⟩ := HS5.out.ma.lt
  obtain ⟨x0, x1, x2, x3, xl⟩ := ins_cells HS5.out.ins
  dsimp only at x0 x1 x2 x3
  obtain ⟨e0, e1, e2, e3, e4, e5, e6, ef, el⟩ := ev_cells HS5.out.ev
  dsimp only at e0 e1 e2 e3 e4 e5 e6
  have cf := (HS5.out.ma.sc i HI.out.1).2.2.2.2
  have hqE : qs ≠ bE := by have := HS5.out.sz; have := HS5.out.ma.bd; omega
  go_wp2_with fail
  obtain ⟨w6, hw6⟩ : ∃ W, W = (w5.setCell ⟨bE, 5, none⟩ (.int .i64 0)).setCell ⟨bE, 6, none⟩ (.int .i64 19) := ⟨_, rfl⟩
  have HS6 := Lib.hid ((HS5.out.va 0).cd 19)
  rw [← hw6] at HS6 ⊢
  clear hw6 hp hq x0 x1 x2 x3 xl e0 e1 e2 e3 e4 e5 e6 ef el cf
  (try clear rja)
  (try clear rjb)
  (try clear rjc)
  refine (aturn HS6.out.ma i HI.out.1 ((k : Int) + 1) (by have := HI.out; omega) (by first | (have := HI.out.2.2; have := HLN.out; omega) | (rw [ps_setReg]; (try dsimp only); have := HI.out.2.2; have := HLN.out; omega) | (rw [ps_setWo]; (try dsimp only); have := HI.out.2.2; have := HLN.out; omega) | (dsimp only; have := HI.out.2.2; have := HLN.out; omega))).mono ?_
  rintro e wt ⟨⟨rr, rfl⟩, hmt, hrt⟩
  have HST := Lib.hid (HS6.out.rgm hrt hmt)
  clear hmt hrt
  (try clear e0 e1 e2 e3 e4 e5 e6 ef el)
  obtain ⟨e0, e1, e2, e3, e4, e5, e6, ef, el⟩ := ev_cells HST.out.ev
  obtain ⟨r0, r1, r2, r3, r4, r5, r6, rf, rl⟩ := ev_cells HST.out.rs
  dsimp only at e0 e1 e2 e3 e4 e5 e6
  go_wp2_with fail
  obtain ⟨w9, hw9⟩ : ∃ W, W = set7 wt w.heap.size (.int .i64 i) (.int .i64 k) (.int .i64 4) (.int .i64 (M.se i).wo) (.int .i64 ((M.se i).r jb)) (.int .i64 0) (.int .i64 19) := ⟨_, rfl⟩
  have hbk := set7_blk (.int .i64 i) (.int .i64 k) (.int .i64 4) (.int .i64 (M.se i).wo) (.int .i64 ((M.se i).r jb)) (.int .i64 0) (.int .i64 19) HST.out.rs
  have hrg := set7_rg wt w.heap.size (.int .i64 i) (.int .i64 k) (.int .i64 4) (.int .i64 (M.se i).wo) (.int .i64 ((M.se i).r jb)) (.int .i64 0) (.int .i64 19)
  rw [← hw9] at hbk hrg
  unfold set7 at hw9
  rw [← hw9]
  clear r0 r1 r2 r3 r4 r5 r6 rf rl hw9
  obtain ⟨r0, r1, r2, r3, r4, r5, r6, rf, rl⟩ := ev_cells hbk
  (try simp only [Exit.inBlock, Exit.then]); refine bodyPost_ret (by simp [results, Tryd.results34, go_sem, r0, r1, r2, r3, r4, r5, r6]; try rfl) rfl ?_
  exact ⟨rfl, HST.out.ma.rgm hrg HST.out.sz.1, HST.out.rg.bx hrg (Nat.le_refl _)⟩

set_option maxRecDepth 100000 in
set_option maxHeartbeats 2000000 in
theorem astep_fault5 (h : Mk w lo hi p qs qo pm lm hm cs co P M) (hL : Lims w) (i k : Nat) (busy : Bool) (ja jb : Nat) (c : Int) (hjb : jb < 4) (hi' : i < M.nc) (ha : (M.se i).a = k) (hk : k < (M.se i).ps.length) (hl : (M.se i).ps.length ≤ 32) (ho : (M.se i).ov = false) (hx : atI (M.se i).ps k = ⟨5, ja, jb, c⟩) (hmay : M.may (M.se i).wo ((M.se i).r jb) = false) :
    Calls Tryd.prog 34 #[.pointer (some ⟨p, 0, none⟩), .int .i64 i, .bool busy] w fun e w' => e = .returned (.tuple #[.agg #[.int .i64 i, .int .i64 k, .int .i64 5, .int .i64 (M.se i).wo, .int .i64 ((M.se i).r jb), .int .i64 0, .int .i64 19], .int .i64 0]) ∧ Mk w' lo hi p qs qo pm lm hm cs co P (M.turn i ((k : Int) + 1)) ∧ Rg lo hi w w' := by
  have H := Lib.hid h
  have HL := Lib.hid hL
  obtain ⟨t0, t1, t2, t3, t4, t5, t6, t7, t8, t9⟩ := ten_at h.top
  obtain ⟨hp, hq, _⟩ := h.lt
  have hn := Ma.n_of h.mm.ok
  have hI := inB_yes (l := 0) (m := (M.nc : Int) - 1) (x := i) (by omega)
  have hn1 : 1 ≤ (M.nc : Int) := by omega
  have hn2 : (M.nc : Int) ≤ 4 := by omega
  have hii : (i : Int) < (M.nc : Int) := by omega
  have hi4 : (i : Int) < 4 := by omega
  obtain ⟨A, cap, hP, hS, _⟩ := (h.pg i hi').1
  obtain ⟨b, off, hA, hbl, hcs⟩ := hS (by omega)
  subst hA
  have hck := hcs k hk
  rw [hx] at hck
  dsimp only at hck
  obtain ⟨y0, y1, y2, y3⟩ := hck
  clear hcs
  have hkl : (k : Int) < ((M.se i).ps.length : Int) := by omega
  have hk32 : (k : Int) ≤ 32 := by omega
  have HC := Lib.hid (fun (W : World) (hb : Below w.heap.size w W) => (h.ext hb).sc i hi')
  rw [ha, ho, hP] at HC
  have HY := Lib.hid (And.intro hbl (And.intro y0 (And.intro y1 (And.intro y2 y3))))
  have HI := Lib.hid (And.intro hi' (And.intro hk hl))
  have HJB := Lib.hid hjb
  have hjb4 : (jb : Int) < 4 := by omega
  clear hjb
  have HMY := Lib.hid hmay
  clear hmay
  clear h hL hn hi' ha hk hl ho hx hP hS y0 y1 y2 y3 hbl
  generalize hln : (M.se i).ps.length = ln at *
  have HLN := Lib.hid hln
  clear hln
  go_enter Tryd.func34, Tryd.ntmps34
  go_wp2_with fail
  refine (within_new _ _ _ _ _ _ (by simp)).mono ?_
  rintro e wx ⟨rfl, hw⟩
  rw [hw]
  clear hw
  obtain ⟨w1, hw1⟩ : ∃ W, W = (w.alloc (.cells #[.int .i64 0, .int .i64 0, .int .i64 0, .int .i64 0, .int .i64 0, .int .i64 0, .int .i64 0] 42)).alloc (.cells #[.int .i64 i] 3) := ⟨_, rfl⟩
  have hb1 : Below w.heap.size w w1 := by rw [hw1]; exact (by repeat (with_reducible first | exact Below.refl _ _ | assumption | (refine ext_next (by assumption) ?_) | apply ext_alloc | apply ext_past | apply ext_drew | apply ext_drewN))
  have HR1 : Hid (w1.heap[w.heap.size]? = some (.cells #[.int .i64 0, .int .i64 0, .int .i64 0, .int .i64 0, .int .i64 0, .int .i64 0, .int .i64 0] 42 (0, 0))) := Lib.hid (by rw [hw1]; exact alOld (alNew rfl))
  rw [← hw1]
  have HB1 := Lib.hid hb1
  clear hw1 hb1 t0 t1 t2 t3 t4 t5 t6 t7 t8 t9 hp hq
  obtain ⟨t0, t1, t2, t3, t4, t5, t6, t7, t8, t9⟩ := ten_at (H.out.ext HB1.out).top
  obtain ⟨hp, hq, _⟩ := (H.out.ext HB1.out).lt
  obtain ⟨c4, c5, c6, c7, _⟩ := HC.out _ HB1.out
  have hbl := Nat.lt_of_lt_of_le HY.out.1 HB1.out.size
  have y0 := (HB1.out.cell (p := ⟨b, _, none⟩) HY.out.1).trans HY.out.2.1
  have y1 := (HB1.out.cell (p := ⟨b, _, none⟩) HY.out.1).trans HY.out.2.2.1
  have y2 := (HB1.out.cell (p := ⟨b, _, none⟩) HY.out.1).trans HY.out.2.2.2.1
  have y3 := (HB1.out.cell (p := ⟨b, _, none⟩) HY.out.1).trans HY.out.2.2.2.2
  go_wp2_with fail
  go_region
  obtain ⟨w2, hw2⟩ : ∃ W, W = (w1.alloc (.cells #[.int .i64 5, .int .i64 ja, .int .i64 jb, .int .i64 c] 36)).drew := ⟨_, rfl⟩
  have hb2 : Below w1.heap.size w1 w2 := by rw [hw2]; exact ext_drew (ext_alloc _ (Below.refl _ _))
  have HX2 : Hid (w2.heap[w1.heap.size]? = some (.cells #[.int .i64 5, .int .i64 ja, .int .i64 jb, .int .i64 c] 36 (0, 0))) := Lib.hid (by rw [hw2]; exact alNew rfl)
  rw [← hw2]
  have HR2 := Lib.hid ((hb2.block _ (lt_of HR1.out)).trans HR1.out)
  have HB2 := Lib.hid (ext_trans HB1.out hb2)
  clear hw2 hb2 y0 y1 y2 y3 hbl t0 t1 t2 t3 t4 t5 t6 t7 t8 t9 hp hq c4 c5 c6 c7
  obtain ⟨hp, hq, _⟩ := (H.out.ext HB2.out).lt
  obtain ⟨c4, c5, c6, c7, _⟩ := HC.out _ HB2.out
  obtain ⟨x0, x1, x2, x3, xl⟩ := ins_cells (x := ⟨5, ja, jb, c⟩) HX2.out
  dsimp only at x0 x1 x2 x3
  go_wp2_with fail
  go_region
  obtain ⟨w3, hw3⟩ : ∃ W, W = (w2.alloc (.cells #[.int .i64 i, .int .i64 k, .int .i64 5, .int .i64 (M.se i).wo, .int .i64 0, .int .i64 0, .int .i64 0] 42)).drew := ⟨_, rfl⟩
  have hb3 : Below w2.heap.size w2 w3 := by rw [hw3]; exact ext_drew (ext_alloc _ (Below.refl _ _))
  have HE3 : Hid (w3.heap[w2.heap.size]? = some (.cells #[.int .i64 i, .int .i64 k, .int .i64 5, .int .i64 (M.se i).wo, .int .i64 0, .int .i64 0, .int .i64 0] 42 (0, 0))) := Lib.hid (by rw [hw3]; exact alNew rfl)
  rw [← hw3]
  have HS3 : Hid (Sp w w3 lo hi p qs qo pm lm hm cs co P w1.heap.size w2.heap.size M ⟨5, ja, jb, c⟩ ⟨i, k, 5, (M.se i).wo, 0, 0, 0⟩) := Lib.hid ⟨H.out.ext (ext_trans HB2.out hb3), HE3.out, (hb3.block _ (lt_of HR2.out)).trans HR2.out, (hb3.block _ (lt_of HX2.out)).trans HX2.out, Rg.of_below (ext_trans HB2.out hb3), H.out.sz, lt_of HR1.out, lt_of HX2.out⟩
  have HB3 := Lib.hid (ext_trans HB2.out hb3)
  clear hw3 hb3 x0 x1 x2 x3 xl hp hq c4 c5 c6 c7 HE3 HR1 HR2 HX2
  obtain ⟨c4, c5, c6, c7, cf⟩ := HC.out _ HB3.out
  generalize w2.heap.size = bE at *
  generalize w1.heap.size = bI at *
  obtain ⟨hp, hq, _⟩ := HS3.out.ma.lt
  obtain ⟨x0, x1, x2, x3, xl⟩ := ins_cells HS3.out.ins
  dsimp only at x0 x1 x2 x3
  obtain ⟨e0, e1, e2, e3, e4, e5, e6, ef, el⟩ := ev_cells HS3.out.ev
  dsimp only at e0 e1 e2 e3 e4 e5 e6
  have cf := (HS3.out.ma.sc i HI.out.1).2.2.2.2
  have hqE : qs ≠ bE := by have := HS3.out.sz; have := HS3.out.ma.bd; omega
  have rjb := HS3.out.ma.reg i HI.out.1 jb HJB.out
  go_wp2_with fail
  go_region
  obtain ⟨w4, hw4⟩ : ∃ W, W = (w3.setCell ⟨bE, 4, none⟩ (.int .i64 ((M.se i).r jb))).drew := ⟨_, rfl⟩
  have HS4 := Lib.hid ((HS3.out.wd ((M.se i).r jb)).ext (ext_drew (Below.refl _ _)))
  rw [← hw4] at HS4 ⊢
  clear hw4 hp hq x0 x1 x2 x3 xl e0 e1 e2 e3 e4 e5 e6 ef el cf
  (try clear rja)
  (try clear rjb)
  (try clear rjc)
  obtain ⟨hp, hq, _⟩ := HS4.out.ma.lt
  obtain ⟨x0, x1, x2, x3, xl⟩ := ins_cells HS4.out.ins
  dsimp only at x0 x1 x2 x3
  obtain ⟨e0, e1, e2, e3, e4, e5, e6, ef, el⟩ := ev_cells HS4.out.ev
  dsimp only at e0 e1 e2 e3 e4 e5 e6
  have cf := (HS4.out.ma.sc i HI.out.1).2.2.2.2
  have hqE : qs ≠ bE := by have := HS4.out.sz; have := HS4.out.ma.bd; omega
  go_wp2_with fail
  refine (aacc_no HS4.out.ma (HL.out.keepR HS4.out.rg H.out.gl) i HI.out.1 5 ja c jb HJB.out (by decide) HMY.out).mono ?_
  rintro e w5 ⟨rfl, hr5⟩
  have HS5 := Lib.hid (HS4.out.ext hr5)
  clear hr5 hp hq x0 x1 x2 x3 xl e0 e1 e2 e3 e4 e5 e6 ef el cf
  obtain ⟨hp, hq, _⟩ := HS5.out.ma.lt
  obtain ⟨x0, x1, x2, x3, xl⟩ := ins_cells HS5.out.ins
  dsimp only at x0 x1 x2 x3
  obtain ⟨e0, e1, e2, e3, e4, e5, e6, ef, el⟩ := ev_cells HS5.out.ev
  dsimp only at e0 e1 e2 e3 e4 e5 e6
  have cf := (HS5.out.ma.sc i HI.out.1).2.2.2.2
  have hqE : qs ≠ bE := by have := HS5.out.sz; have := HS5.out.ma.bd; omega
  go_wp2_with fail
  obtain ⟨w6, hw6⟩ : ∃ W, W = (w5.setCell ⟨bE, 5, none⟩ (.int .i64 0)).setCell ⟨bE, 6, none⟩ (.int .i64 19) := ⟨_, rfl⟩
  have HS6 := Lib.hid ((HS5.out.va 0).cd 19)
  rw [← hw6] at HS6 ⊢
  clear hw6 hp hq x0 x1 x2 x3 xl e0 e1 e2 e3 e4 e5 e6 ef el cf
  (try clear rja)
  (try clear rjb)
  (try clear rjc)
  refine (aturn HS6.out.ma i HI.out.1 ((k : Int) + 1) (by have := HI.out; omega) (by first | (have := HI.out.2.2; have := HLN.out; omega) | (rw [ps_setReg]; (try dsimp only); have := HI.out.2.2; have := HLN.out; omega) | (rw [ps_setWo]; (try dsimp only); have := HI.out.2.2; have := HLN.out; omega) | (dsimp only; have := HI.out.2.2; have := HLN.out; omega))).mono ?_
  rintro e wt ⟨⟨rr, rfl⟩, hmt, hrt⟩
  have HST := Lib.hid (HS6.out.rgm hrt hmt)
  clear hmt hrt
  (try clear e0 e1 e2 e3 e4 e5 e6 ef el)
  obtain ⟨e0, e1, e2, e3, e4, e5, e6, ef, el⟩ := ev_cells HST.out.ev
  obtain ⟨r0, r1, r2, r3, r4, r5, r6, rf, rl⟩ := ev_cells HST.out.rs
  dsimp only at e0 e1 e2 e3 e4 e5 e6
  go_wp2_with fail
  obtain ⟨w9, hw9⟩ : ∃ W, W = set7 wt w.heap.size (.int .i64 i) (.int .i64 k) (.int .i64 5) (.int .i64 (M.se i).wo) (.int .i64 ((M.se i).r jb)) (.int .i64 0) (.int .i64 19) := ⟨_, rfl⟩
  have hbk := set7_blk (.int .i64 i) (.int .i64 k) (.int .i64 5) (.int .i64 (M.se i).wo) (.int .i64 ((M.se i).r jb)) (.int .i64 0) (.int .i64 19) HST.out.rs
  have hrg := set7_rg wt w.heap.size (.int .i64 i) (.int .i64 k) (.int .i64 5) (.int .i64 (M.se i).wo) (.int .i64 ((M.se i).r jb)) (.int .i64 0) (.int .i64 19)
  rw [← hw9] at hbk hrg
  unfold set7 at hw9
  rw [← hw9]
  clear r0 r1 r2 r3 r4 r5 r6 rf rl hw9
  obtain ⟨r0, r1, r2, r3, r4, r5, r6, rf, rl⟩ := ev_cells hbk
  (try simp only [Exit.inBlock, Exit.then]); refine bodyPost_ret (by simp [results, Tryd.results34, go_sem, r0, r1, r2, r3, r4, r5, r6]; try rfl) rfl ?_
  exact ⟨rfl, HST.out.ma.rgm hrg HST.out.sz.1, HST.out.rg.bx hrg (Nat.le_refl _)⟩

set_option maxRecDepth 100000 in
set_option maxHeartbeats 2000000 in
theorem astep_load (h : Mk w lo hi p qs qo pm lm hm cs co P M) (hL : Lims w) (i k : Nat) (busy : Bool) (ja jb : Nat) (c : Int) (hja : ja < 4) (hjb : jb < 4) (hi' : i < M.nc) (ha : (M.se i).a = k) (hk : k < (M.se i).ps.length) (hl : (M.se i).ps.length ≤ 32) (ho : (M.se i).ov = false) (hx : atI (M.se i).ps k = ⟨3, ja, jb, c⟩) (kw : Nat) (hkw : kw < 2 * M.m.n) (hrb : (M.se i).r jb = kw) (hmay : M.may (M.se i).wo kw = true) :
    Calls Tryd.prog 34 #[.pointer (some ⟨p, 0, none⟩), .int .i64 i, .bool busy] w fun e w' => e = .returned (.tuple #[.agg #[.int .i64 i, .int .i64 k, .int .i64 3, .int .i64 (M.se i).wo, .int .i64 ((M.se i).r jb), .int .i64 (M.m.wd kw), .int .i64 0], .int .i64 0]) ∧ Mk w' lo hi p qs qo pm lm hm cs co P (Ma.turn (M.setReg i ja (M.m.wd kw)) i ((k : Int) + 1)) ∧ Rg lo hi w w' := by
  have H := Lib.hid h
  have HL := Lib.hid hL
  obtain ⟨t0, t1, t2, t3, t4, t5, t6, t7, t8, t9⟩ := ten_at h.top
  obtain ⟨hp, hq, _⟩ := h.lt
  have hn := Ma.n_of h.mm.ok
  have hI := inB_yes (l := 0) (m := (M.nc : Int) - 1) (x := i) (by omega)
  have hn1 : 1 ≤ (M.nc : Int) := by omega
  have hn2 : (M.nc : Int) ≤ 4 := by omega
  have hii : (i : Int) < (M.nc : Int) := by omega
  have hi4 : (i : Int) < 4 := by omega
  obtain ⟨A, cap, hP, hS, _⟩ := (h.pg i hi').1
  obtain ⟨b, off, hA, hbl, hcs⟩ := hS (by omega)
  subst hA
  have hck := hcs k hk
  rw [hx] at hck
  dsimp only at hck
  obtain ⟨y0, y1, y2, y3⟩ := hck
  clear hcs
  have hkl : (k : Int) < ((M.se i).ps.length : Int) := by omega
  have hk32 : (k : Int) ≤ 32 := by omega
  have HC := Lib.hid (fun (W : World) (hb : Below w.heap.size w W) => (h.ext hb).sc i hi')
  rw [ha, ho, hP] at HC
  have HY := Lib.hid (And.intro hbl (And.intro y0 (And.intro y1 (And.intro y2 y3))))
  have HI := Lib.hid (And.intro hi' (And.intro hk hl))
  have HJA := Lib.hid hja
  have hja4 : (ja : Int) < 4 := by omega
  clear hja
  have HJB := Lib.hid hjb
  have hjb4 : (jb : Int) < 4 := by omega
  clear hjb
  have HMY := Lib.hid (And.intro hkw (And.intro hrb hmay))
  clear hkw hrb hmay
  clear h hL hn hi' ha hk hl ho hx hP hS y0 y1 y2 y3 hbl
  generalize hln : (M.se i).ps.length = ln at *
  have HLN := Lib.hid hln
  clear hln
  go_enter Tryd.func34, Tryd.ntmps34
  go_wp2_with fail
  refine (within_new _ _ _ _ _ _ (by simp)).mono ?_
  rintro e wx ⟨rfl, hw⟩
  rw [hw]
  clear hw
  obtain ⟨w1, hw1⟩ : ∃ W, W = (w.alloc (.cells #[.int .i64 0, .int .i64 0, .int .i64 0, .int .i64 0, .int .i64 0, .int .i64 0, .int .i64 0] 42)).alloc (.cells #[.int .i64 i] 3) := ⟨_, rfl⟩
  have hb1 : Below w.heap.size w w1 := by rw [hw1]; exact (by repeat (with_reducible first | exact Below.refl _ _ | assumption | (refine ext_next (by assumption) ?_) | apply ext_alloc | apply ext_past | apply ext_drew | apply ext_drewN))
  have HR1 : Hid (w1.heap[w.heap.size]? = some (.cells #[.int .i64 0, .int .i64 0, .int .i64 0, .int .i64 0, .int .i64 0, .int .i64 0, .int .i64 0] 42 (0, 0))) := Lib.hid (by rw [hw1]; exact alOld (alNew rfl))
  rw [← hw1]
  have HB1 := Lib.hid hb1
  clear hw1 hb1 t0 t1 t2 t3 t4 t5 t6 t7 t8 t9 hp hq
  obtain ⟨t0, t1, t2, t3, t4, t5, t6, t7, t8, t9⟩ := ten_at (H.out.ext HB1.out).top
  obtain ⟨hp, hq, _⟩ := (H.out.ext HB1.out).lt
  obtain ⟨c4, c5, c6, c7, _⟩ := HC.out _ HB1.out
  have hbl := Nat.lt_of_lt_of_le HY.out.1 HB1.out.size
  have y0 := (HB1.out.cell (p := ⟨b, _, none⟩) HY.out.1).trans HY.out.2.1
  have y1 := (HB1.out.cell (p := ⟨b, _, none⟩) HY.out.1).trans HY.out.2.2.1
  have y2 := (HB1.out.cell (p := ⟨b, _, none⟩) HY.out.1).trans HY.out.2.2.2.1
  have y3 := (HB1.out.cell (p := ⟨b, _, none⟩) HY.out.1).trans HY.out.2.2.2.2
  go_wp2_with fail
  go_region
  obtain ⟨w2, hw2⟩ : ∃ W, W = (w1.alloc (.cells #[.int .i64 3, .int .i64 ja, .int .i64 jb, .int .i64 c] 36)).drew := ⟨_, rfl⟩
  have hb2 : Below w1.heap.size w1 w2 := by rw [hw2]; exact ext_drew (ext_alloc _ (Below.refl _ _))
  have HX2 : Hid (w2.heap[w1.heap.size]? = some (.cells #[.int .i64 3, .int .i64 ja, .int .i64 jb, .int .i64 c] 36 (0, 0))) := Lib.hid (by rw [hw2]; exact alNew rfl)
  rw [← hw2]
  have HR2 := Lib.hid ((hb2.block _ (lt_of HR1.out)).trans HR1.out)
  have HB2 := Lib.hid (ext_trans HB1.out hb2)
  clear hw2 hb2 y0 y1 y2 y3 hbl t0 t1 t2 t3 t4 t5 t6 t7 t8 t9 hp hq c4 c5 c6 c7
  obtain ⟨hp, hq, _⟩ := (H.out.ext HB2.out).lt
  obtain ⟨c4, c5, c6, c7, _⟩ := HC.out _ HB2.out
  obtain ⟨x0, x1, x2, x3, xl⟩ := ins_cells (x := ⟨3, ja, jb, c⟩) HX2.out
  dsimp only at x0 x1 x2 x3
  go_wp2_with fail
  go_region
  obtain ⟨w3, hw3⟩ : ∃ W, W = (w2.alloc (.cells #[.int .i64 i, .int .i64 k, .int .i64 3, .int .i64 (M.se i).wo, .int .i64 0, .int .i64 0, .int .i64 0] 42)).drew := ⟨_, rfl⟩
  have hb3 : Below w2.heap.size w2 w3 := by rw [hw3]; exact ext_drew (ext_alloc _ (Below.refl _ _))
  have HE3 : Hid (w3.heap[w2.heap.size]? = some (.cells #[.int .i64 i, .int .i64 k, .int .i64 3, .int .i64 (M.se i).wo, .int .i64 0, .int .i64 0, .int .i64 0] 42 (0, 0))) := Lib.hid (by rw [hw3]; exact alNew rfl)
  rw [← hw3]
  have HS3 : Hid (Sp w w3 lo hi p qs qo pm lm hm cs co P w1.heap.size w2.heap.size M ⟨3, ja, jb, c⟩ ⟨i, k, 3, (M.se i).wo, 0, 0, 0⟩) := Lib.hid ⟨H.out.ext (ext_trans HB2.out hb3), HE3.out, (hb3.block _ (lt_of HR2.out)).trans HR2.out, (hb3.block _ (lt_of HX2.out)).trans HX2.out, Rg.of_below (ext_trans HB2.out hb3), H.out.sz, lt_of HR1.out, lt_of HX2.out⟩
  have HB3 := Lib.hid (ext_trans HB2.out hb3)
  clear hw3 hb3 x0 x1 x2 x3 xl hp hq c4 c5 c6 c7 HE3 HR1 HR2 HX2
  obtain ⟨c4, c5, c6, c7, cf⟩ := HC.out _ HB3.out
  generalize w2.heap.size = bE at *
  generalize w1.heap.size = bI at *
  obtain ⟨hp, hq, _⟩ := HS3.out.ma.lt
  obtain ⟨x0, x1, x2, x3, xl⟩ := ins_cells HS3.out.ins
  dsimp only at x0 x1 x2 x3
  obtain ⟨e0, e1, e2, e3, e4, e5, e6, ef, el⟩ := ev_cells HS3.out.ev
  dsimp only at e0 e1 e2 e3 e4 e5 e6
  have cf := (HS3.out.ma.sc i HI.out.1).2.2.2.2
  have hqE : qs ≠ bE := by have := HS3.out.sz; have := HS3.out.ma.bd; omega
  have rjb := HS3.out.ma.reg i HI.out.1 jb HJB.out
  go_wp2_with fail
  go_region
  obtain ⟨w4, hw4⟩ : ∃ W, W = (w3.setCell ⟨bE, 4, none⟩ (.int .i64 ((M.se i).r jb))).drew := ⟨_, rfl⟩
  have HS4 := Lib.hid ((HS3.out.wd ((M.se i).r jb)).ext (ext_drew (Below.refl _ _)))
  rw [← hw4] at HS4 ⊢
  clear hw4 hp hq x0 x1 x2 x3 xl e0 e1 e2 e3 e4 e5 e6 ef el cf
  (try clear rja)
  (try clear rjb)
  (try clear rjc)
  obtain ⟨hp, hq, _⟩ := HS4.out.ma.lt
  obtain ⟨x0, x1, x2, x3, xl⟩ := ins_cells HS4.out.ins
  dsimp only at x0 x1 x2 x3
  obtain ⟨e0, e1, e2, e3, e4, e5, e6, ef, el⟩ := ev_cells HS4.out.ev
  dsimp only at e0 e1 e2 e3 e4 e5 e6
  have cf := (HS4.out.ma.sc i HI.out.1).2.2.2.2
  have hqE : qs ≠ bE := by have := HS4.out.sz; have := HS4.out.ma.bd; omega
  go_wp2_with fail
  refine (aacc_load HS4.out.ma (HL.out.keepR HS4.out.rg H.out.gl) i HI.out.1 ja jb kw c HJA.out HJB.out HMY.out.1 HMY.out.2.1 HMY.out.2.2).mono ?_
  rintro e w5 ⟨rfl, hm5, hr5⟩
  have HS5 := Lib.hid (HS4.out.rgm hr5 hm5)
  clear hr5 hm5 hp hq x0 x1 x2 x3 xl e0 e1 e2 e3 e4 e5 e6 ef el cf
  obtain ⟨hp, hq, _⟩ := HS5.out.ma.lt
  obtain ⟨x0, x1, x2, x3, xl⟩ := ins_cells HS5.out.ins
  dsimp only at x0 x1 x2 x3
  obtain ⟨e0, e1, e2, e3, e4, e5, e6, ef, el⟩ := ev_cells HS5.out.ev
  dsimp only at e0 e1 e2 e3 e4 e5 e6
  have cf := (HS5.out.ma.sc i HI.out.1).2.2.2.2
  have hqE : qs ≠ bE := by have := HS5.out.sz; have := HS5.out.ma.bd; omega
  go_wp2_with fail
  obtain ⟨w6, hw6⟩ : ∃ W, W = (w5.setCell ⟨bE, 5, none⟩ (.int .i64 (M.m.wd kw))).setCell ⟨bE, 6, none⟩ (.int .i64 0) := ⟨_, rfl⟩
  have HS6 := Lib.hid ((HS5.out.va (M.m.wd kw)).cd 0)
  rw [← hw6] at HS6 ⊢
  clear hw6 hp hq x0 x1 x2 x3 xl e0 e1 e2 e3 e4 e5 e6 ef el cf
  (try clear rja)
  (try clear rjb)
  (try clear rjc)
  refine (aturn HS6.out.ma i HI.out.1 ((k : Int) + 1) (by have := HI.out; omega) (by first | (have := HI.out.2.2; have := HLN.out; omega) | (rw [ps_setReg]; (try dsimp only); have := HI.out.2.2; have := HLN.out; omega) | (rw [ps_setWo]; (try dsimp only); have := HI.out.2.2; have := HLN.out; omega) | (dsimp only; have := HI.out.2.2; have := HLN.out; omega))).mono ?_
  rintro e wt ⟨⟨rr, rfl⟩, hmt, hrt⟩
  have HST := Lib.hid (HS6.out.rgm hrt hmt)
  clear hmt hrt
  (try clear e0 e1 e2 e3 e4 e5 e6 ef el)
  obtain ⟨e0, e1, e2, e3, e4, e5, e6, ef, el⟩ := ev_cells HST.out.ev
  obtain ⟨r0, r1, r2, r3, r4, r5, r6, rf, rl⟩ := ev_cells HST.out.rs
  dsimp only at e0 e1 e2 e3 e4 e5 e6
  go_wp2_with fail
  obtain ⟨w9, hw9⟩ : ∃ W, W = set7 wt w.heap.size (.int .i64 i) (.int .i64 k) (.int .i64 3) (.int .i64 (M.se i).wo) (.int .i64 ((M.se i).r jb)) (.int .i64 (M.m.wd kw)) (.int .i64 0) := ⟨_, rfl⟩
  have hbk := set7_blk (.int .i64 i) (.int .i64 k) (.int .i64 3) (.int .i64 (M.se i).wo) (.int .i64 ((M.se i).r jb)) (.int .i64 (M.m.wd kw)) (.int .i64 0) HST.out.rs
  have hrg := set7_rg wt w.heap.size (.int .i64 i) (.int .i64 k) (.int .i64 3) (.int .i64 (M.se i).wo) (.int .i64 ((M.se i).r jb)) (.int .i64 (M.m.wd kw)) (.int .i64 0)
  rw [← hw9] at hbk hrg
  unfold set7 at hw9
  rw [← hw9]
  clear r0 r1 r2 r3 r4 r5 r6 rf rl hw9
  obtain ⟨r0, r1, r2, r3, r4, r5, r6, rf, rl⟩ := ev_cells hbk
  (try simp only [Exit.inBlock, Exit.then]); refine bodyPost_ret (by simp [results, Tryd.results34, go_sem, r0, r1, r2, r3, r4, r5, r6]; try rfl) rfl ?_
  exact ⟨rfl, HST.out.ma.rgm hrg HST.out.sz.1, HST.out.rg.bx hrg (Nat.le_refl _)⟩

set_option maxRecDepth 100000 in
set_option maxHeartbeats 2000000 in
theorem astep_store (h : Mk w lo hi p qs qo pm lm hm cs co P M) (hL : Lims w) (i k : Nat) (busy : Bool) (ja jb : Nat) (c : Int) (hja : ja < 4) (hjb : jb < 4) (hi' : i < M.nc) (ha : (M.se i).a = k) (hk : k < (M.se i).ps.length) (hl : (M.se i).ps.length ≤ 32) (ho : (M.se i).ov = false) (hx : atI (M.se i).ps k = ⟨4, ja, jb, c⟩) (kw : Nat) (hkw : kw < 2 * M.m.n) (hrb : (M.se i).r jb = kw) (hmay : M.may (M.se i).wo kw = true) :
    Calls Tryd.prog 34 #[.pointer (some ⟨p, 0, none⟩), .int .i64 i, .bool busy] w fun e w' => e = .returned (.tuple #[.agg #[.int .i64 i, .int .i64 k, .int .i64 4, .int .i64 (M.se i).wo, .int .i64 ((M.se i).r jb), .int .i64 ((M.se i).r ja), .int .i64 0], .int .i64 0]) ∧ Mk w' lo hi p qs qo pm lm hm cs co P (Ma.turn { M with m := M.m.setWd kw ((M.se i).r ja) } i ((k : Int) + 1)) ∧ Rg lo hi w w' := by
  have H := Lib.hid h
  have HL := Lib.hid hL
  obtain ⟨t0, t1, t2, t3, t4, t5, t6, t7, t8, t9⟩ := ten_at h.top
  obtain ⟨hp, hq, _⟩ := h.lt
  have hn := Ma.n_of h.mm.ok
  have hI := inB_yes (l := 0) (m := (M.nc : Int) - 1) (x := i) (by omega)
  have hn1 : 1 ≤ (M.nc : Int) := by omega
  have hn2 : (M.nc : Int) ≤ 4 := by omega
  have hii : (i : Int) < (M.nc : Int) := by omega
  have hi4 : (i : Int) < 4 := by omega
  obtain ⟨A, cap, hP, hS, _⟩ := (h.pg i hi').1
  obtain ⟨b, off, hA, hbl, hcs⟩ := hS (by omega)
  subst hA
  have hck := hcs k hk
  rw [hx] at hck
  dsimp only at hck
  obtain ⟨y0, y1, y2, y3⟩ := hck
  clear hcs
  have hkl : (k : Int) < ((M.se i).ps.length : Int) := by omega
  have hk32 : (k : Int) ≤ 32 := by omega
  have HC := Lib.hid (fun (W : World) (hb : Below w.heap.size w W) => (h.ext hb).sc i hi')
  rw [ha, ho, hP] at HC
  have HY := Lib.hid (And.intro hbl (And.intro y0 (And.intro y1 (And.intro y2 y3))))
  have HI := Lib.hid (And.intro hi' (And.intro hk hl))
  have HJA := Lib.hid hja
  have hja4 : (ja : Int) < 4 := by omega
  clear hja
  have HJB := Lib.hid hjb
  have hjb4 : (jb : Int) < 4 := by omega
  clear hjb
  have HMY := Lib.hid (And.intro hkw (And.intro hrb hmay))
  clear hkw hrb hmay
  clear h hL hn hi' ha hk hl ho hx hP hS y0 y1 y2 y3 hbl
  generalize hln : (M.se i).ps.length = ln at *
  have HLN := Lib.hid hln
  clear hln
  go_enter Tryd.func34, Tryd.ntmps34
  go_wp2_with fail
  refine (within_new _ _ _ _ _ _ (by simp)).mono ?_
  rintro e wx ⟨rfl, hw⟩
  rw [hw]
  clear hw
  obtain ⟨w1, hw1⟩ : ∃ W, W = (w.alloc (.cells #[.int .i64 0, .int .i64 0, .int .i64 0, .int .i64 0, .int .i64 0, .int .i64 0, .int .i64 0] 42)).alloc (.cells #[.int .i64 i] 3) := ⟨_, rfl⟩
  have hb1 : Below w.heap.size w w1 := by rw [hw1]; exact (by repeat (with_reducible first | exact Below.refl _ _ | assumption | (refine ext_next (by assumption) ?_) | apply ext_alloc | apply ext_past | apply ext_drew | apply ext_drewN))
  have HR1 : Hid (w1.heap[w.heap.size]? = some (.cells #[.int .i64 0, .int .i64 0, .int .i64 0, .int .i64 0, .int .i64 0, .int .i64 0, .int .i64 0] 42 (0, 0))) := Lib.hid (by rw [hw1]; exact alOld (alNew rfl))
  rw [← hw1]
  have HB1 := Lib.hid hb1
  clear hw1 hb1 t0 t1 t2 t3 t4 t5 t6 t7 t8 t9 hp hq
  obtain ⟨t0, t1, t2, t3, t4, t5, t6, t7, t8, t9⟩ := ten_at (H.out.ext HB1.out).top
  obtain ⟨hp, hq, _⟩ := (H.out.ext HB1.out).lt
  obtain ⟨c4, c5, c6, c7, _⟩ := HC.out _ HB1.out
  have hbl := Nat.lt_of_lt_of_le HY.out.1 HB1.out.size
  have y0 := (HB1.out.cell (p := ⟨b, _, none⟩) HY.out.1).trans HY.out.2.1
  have y1 := (HB1.out.cell (p := ⟨b, _, none⟩) HY.out.1).trans HY.out.2.2.1
  have y2 := (HB1.out.cell (p := ⟨b, _, none⟩) HY.out.1).trans HY.out.2.2.2.1
  have y3 := (HB1.out.cell (p := ⟨b, _, none⟩) HY.out.1).trans HY.out.2.2.2.2
  go_wp2_with fail
  go_region
  obtain ⟨w2, hw2⟩ : ∃ W, W = (w1.alloc (.cells #[.int .i64 4, .int .i64 ja, .int .i64 jb, .int .i64 c] 36)).drew := ⟨_, rfl⟩
  have hb2 : Below w1.heap.size w1 w2 := by rw [hw2]; exact ext_drew (ext_alloc _ (Below.refl _ _))
  have HX2 : Hid (w2.heap[w1.heap.size]? = some (.cells #[.int .i64 4, .int .i64 ja, .int .i64 jb, .int .i64 c] 36 (0, 0))) := Lib.hid (by rw [hw2]; exact alNew rfl)
  rw [← hw2]
  have HR2 := Lib.hid ((hb2.block _ (lt_of HR1.out)).trans HR1.out)
  have HB2 := Lib.hid (ext_trans HB1.out hb2)
  clear hw2 hb2 y0 y1 y2 y3 hbl t0 t1 t2 t3 t4 t5 t6 t7 t8 t9 hp hq c4 c5 c6 c7
  obtain ⟨hp, hq, _⟩ := (H.out.ext HB2.out).lt
  obtain ⟨c4, c5, c6, c7, _⟩ := HC.out _ HB2.out
  obtain ⟨x0, x1, x2, x3, xl⟩ := ins_cells (x := ⟨4, ja, jb, c⟩) HX2.out
  dsimp only at x0 x1 x2 x3
  go_wp2_with fail
  go_region
  obtain ⟨w3, hw3⟩ : ∃ W, W = (w2.alloc (.cells #[.int .i64 i, .int .i64 k, .int .i64 4, .int .i64 (M.se i).wo, .int .i64 0, .int .i64 0, .int .i64 0] 42)).drew := ⟨_, rfl⟩
  have hb3 : Below w2.heap.size w2 w3 := by rw [hw3]; exact ext_drew (ext_alloc _ (Below.refl _ _))
  have HE3 : Hid (w3.heap[w2.heap.size]? = some (.cells #[.int .i64 i, .int .i64 k, .int .i64 4, .int .i64 (M.se i).wo, .int .i64 0, .int .i64 0, .int .i64 0] 42 (0, 0))) := Lib.hid (by rw [hw3]; exact alNew rfl)
  rw [← hw3]
  have HS3 : Hid (Sp w w3 lo hi p qs qo pm lm hm cs co P w1.heap.size w2.heap.size M ⟨4, ja, jb, c⟩ ⟨i, k, 4, (M.se i).wo, 0, 0, 0⟩) := Lib.hid ⟨H.out.ext (ext_trans HB2.out hb3), HE3.out, (hb3.block _ (lt_of HR2.out)).trans HR2.out, (hb3.block _ (lt_of HX2.out)).trans HX2.out, Rg.of_below (ext_trans HB2.out hb3), H.out.sz, lt_of HR1.out, lt_of HX2.out⟩
  have HB3 := Lib.hid (ext_trans HB2.out hb3)
  clear hw3 hb3 x0 x1 x2 x3 xl hp hq c4 c5 c6 c7 HE3 HR1 HR2 HX2
  obtain ⟨c4, c5, c6, c7, cf⟩ := HC.out _ HB3.out
  generalize w2.heap.size = bE at *
  generalize w1.heap.size = bI at *
  obtain ⟨hp, hq, _⟩ := HS3.out.ma.lt
  obtain ⟨x0, x1, x2, x3, xl⟩ := ins_cells HS3.out.ins
  dsimp only at x0 x1 x2 x3
  obtain ⟨e0, e1, e2, e3, e4, e5, e6, ef, el⟩ := ev_cells HS3.out.ev
  dsimp only at e0 e1 e2 e3 e4 e5 e6
  have cf := (HS3.out.ma.sc i HI.out.1).2.2.2.2
  have hqE : qs ≠ bE := by have := HS3.out.sz; have := HS3.out.ma.bd; omega
  have rjb := HS3.out.ma.reg i HI.out.1 jb HJB.out
  go_wp2_with fail
  go_region
  obtain ⟨w4, hw4⟩ : ∃ W, W = (w3.setCell ⟨bE, 4, none⟩ (.int .i64 ((M.se i).r jb))).drew := ⟨_, rfl⟩
  have HS4 := Lib.hid ((HS3.out.wd ((M.se i).r jb)).ext (ext_drew (Below.refl _ _)))
  rw [← hw4] at HS4 ⊢
  clear hw4 hp hq x0 x1 x2 x3 xl e0 e1 e2 e3 e4 e5 e6 ef el cf
  (try clear rja)
  (try clear rjb)
  (try clear rjc)
  obtain ⟨hp, hq, _⟩ := HS4.out.ma.lt
  obtain ⟨x0, x1, x2, x3, xl⟩ := ins_cells HS4.out.ins
  dsimp only at x0 x1 x2 x3
  obtain ⟨e0, e1, e2, e3, e4, e5, e6, ef, el⟩ := ev_cells HS4.out.ev
  dsimp only at e0 e1 e2 e3 e4 e5 e6
  have cf := (HS4.out.ma.sc i HI.out.1).2.2.2.2
  have hqE : qs ≠ bE := by have := HS4.out.sz; have := HS4.out.ma.bd; omega
  go_wp2_with fail
  refine (aacc_store HS4.out.ma (HL.out.keepR HS4.out.rg H.out.gl) i HI.out.1 ja jb kw c HJA.out HJB.out HMY.out.1 HMY.out.2.1 HMY.out.2.2).mono ?_
  rintro e w5 ⟨rfl, hm5, hr5⟩
  have HS5 := Lib.hid (HS4.out.rgm hr5 hm5)
  clear hr5 hm5 hp hq x0 x1 x2 x3 xl e0 e1 e2 e3 e4 e5 e6 ef el cf
  obtain ⟨hp, hq, _⟩ := HS5.out.ma.lt
  obtain ⟨x0, x1, x2, x3, xl⟩ := ins_cells HS5.out.ins
  dsimp only at x0 x1 x2 x3
  obtain ⟨e0, e1, e2, e3, e4, e5, e6, ef, el⟩ := ev_cells HS5.out.ev
  dsimp only at e0 e1 e2 e3 e4 e5 e6
  have cf := (HS5.out.ma.sc i HI.out.1).2.2.2.2
  have hqE : qs ≠ bE := by have := HS5.out.sz; have := HS5.out.ma.bd; omega
  go_wp2_with fail
  obtain ⟨w6, hw6⟩ : ∃ W, W = (w5.setCell ⟨bE, 5, none⟩ (.int .i64 ((M.se i).r ja))).setCell ⟨bE, 6, none⟩ (.int .i64 0) := ⟨_, rfl⟩
  have HS6 := Lib.hid ((HS5.out.va ((M.se i).r ja)).cd 0)
  rw [← hw6] at HS6 ⊢
  clear hw6 hp hq x0 x1 x2 x3 xl e0 e1 e2 e3 e4 e5 e6 ef el cf
  (try clear rja)
  (try clear rjb)
  (try clear rjc)
  refine (aturn HS6.out.ma i HI.out.1 ((k : Int) + 1) (by have := HI.out; omega) (by first | (have := HI.out.2.2; have := HLN.out; omega) | (rw [ps_setReg]; (try dsimp only); have := HI.out.2.2; have := HLN.out; omega) | (rw [ps_setWo]; (try dsimp only); have := HI.out.2.2; have := HLN.out; omega) | (dsimp only; have := HI.out.2.2; have := HLN.out; omega))).mono ?_
  rintro e wt ⟨⟨rr, rfl⟩, hmt, hrt⟩
  have HST := Lib.hid (HS6.out.rgm hrt hmt)
  clear hmt hrt
  (try clear e0 e1 e2 e3 e4 e5 e6 ef el)
  obtain ⟨e0, e1, e2, e3, e4, e5, e6, ef, el⟩ := ev_cells HST.out.ev
  obtain ⟨r0, r1, r2, r3, r4, r5, r6, rf, rl⟩ := ev_cells HST.out.rs
  dsimp only at e0 e1 e2 e3 e4 e5 e6
  go_wp2_with fail
  obtain ⟨w9, hw9⟩ : ∃ W, W = set7 wt w.heap.size (.int .i64 i) (.int .i64 k) (.int .i64 4) (.int .i64 (M.se i).wo) (.int .i64 ((M.se i).r jb)) (.int .i64 ((M.se i).r ja)) (.int .i64 0) := ⟨_, rfl⟩
  have hbk := set7_blk (.int .i64 i) (.int .i64 k) (.int .i64 4) (.int .i64 (M.se i).wo) (.int .i64 ((M.se i).r jb)) (.int .i64 ((M.se i).r ja)) (.int .i64 0) HST.out.rs
  have hrg := set7_rg wt w.heap.size (.int .i64 i) (.int .i64 k) (.int .i64 4) (.int .i64 (M.se i).wo) (.int .i64 ((M.se i).r jb)) (.int .i64 ((M.se i).r ja)) (.int .i64 0)
  rw [← hw9] at hbk hrg
  unfold set7 at hw9
  rw [← hw9]
  clear r0 r1 r2 r3 r4 r5 r6 rf rl hw9
  obtain ⟨r0, r1, r2, r3, r4, r5, r6, rf, rl⟩ := ev_cells hbk
  (try simp only [Exit.inBlock, Exit.then]); refine bodyPost_ret (by simp [results, Tryd.results34, go_sem, r0, r1, r2, r3, r4, r5, r6]; try rfl) rfl ?_
  exact ⟨rfl, HST.out.ma.rgm hrg HST.out.sz.1, HST.out.rg.bx hrg (Nat.le_refl _)⟩

set_option maxRecDepth 100000 in
set_option maxHeartbeats 2000000 in
theorem astep_swap (h : Mk w lo hi p qs qo pm lm hm cs co P M) (hL : Lims w) (i k : Nat) (busy : Bool) (ja jb : Nat) (c : Int) (hja : ja < 4) (hjb : jb < 4) (hi' : i < M.nc) (ha : (M.se i).a = k) (hk : k < (M.se i).ps.length) (hl : (M.se i).ps.length ≤ 32) (ho : (M.se i).ov = false) (hx : atI (M.se i).ps k = ⟨5, ja, jb, c⟩) (kw : Nat) (hkw : kw < 2 * M.m.n) (hrb : (M.se i).r jb = kw) (hmay : M.may (M.se i).wo kw = true) :
    Calls Tryd.prog 34 #[.pointer (some ⟨p, 0, none⟩), .int .i64 i, .bool busy] w fun e w' => e = .returned (.tuple #[.agg #[.int .i64 i, .int .i64 k, .int .i64 5, .int .i64 (M.se i).wo, .int .i64 ((M.se i).r jb), .int .i64 (M.m.wd kw), .int .i64 0], .int .i64 0]) ∧ Mk w' lo hi p qs qo pm lm hm cs co P (Ma.turn (Ma.setReg { M with m := M.m.setWd kw ((M.se i).r ja) } i ja (M.m.wd kw)) i ((k : Int) + 1)) ∧ Rg lo hi w w' := by
  have H := Lib.hid h
  have HL := Lib.hid hL
  obtain ⟨t0, t1, t2, t3, t4, t5, t6, t7, t8, t9⟩ := ten_at h.top
  obtain ⟨hp, hq, _⟩ := h.lt
  have hn := Ma.n_of h.mm.ok
  have hI := inB_yes (l := 0) (m := (M.nc : Int) - 1) (x := i) (by omega)
  have hn1 : 1 ≤ (M.nc : Int) := by omega
  have hn2 : (M.nc : Int) ≤ 4 := by omega
  have hii : (i : Int) < (M.nc : Int) := by omega
  have hi4 : (i : Int) < 4 := by omega
  obtain ⟨A, cap, hP, hS, _⟩ := (h.pg i hi').1
  obtain ⟨b, off, hA, hbl, hcs⟩ := hS (by omega)
  subst hA
  have hck := hcs k hk
  rw [hx] at hck
  dsimp only at hck
  obtain ⟨y0, y1, y2, y3⟩ := hck
  clear hcs
  have hkl : (k : Int) < ((M.se i).ps.length : Int) := by omega
  have hk32 : (k : Int) ≤ 32 := by omega
  have HC := Lib.hid (fun (W : World) (hb : Below w.heap.size w W) => (h.ext hb).sc i hi')
  rw [ha, ho, hP] at HC
  have HY := Lib.hid (And.intro hbl (And.intro y0 (And.intro y1 (And.intro y2 y3))))
  have HI := Lib.hid (And.intro hi' (And.intro hk hl))
  have HJA := Lib.hid hja
  have hja4 : (ja : Int) < 4 := by omega
  clear hja
  have HJB := Lib.hid hjb
  have hjb4 : (jb : Int) < 4 := by omega
  clear hjb
  have HMY := Lib.hid (And.intro hkw (And.intro hrb hmay))
  clear hkw hrb hmay
  clear h hL hn hi' ha hk hl ho hx hP hS y0 y1 y2 y3 hbl
  generalize hln : (M.se i).ps.length = ln at *
  have HLN := Lib.hid hln
  clear hln
  go_enter Tryd.func34, Tryd.ntmps34
  go_wp2_with fail
  refine (within_new _ _ _ _ _ _ (by simp)).mono ?_
  rintro e wx ⟨rfl, hw⟩
  rw [hw]
  clear hw
  obtain ⟨w1, hw1⟩ : ∃ W, W = (w.alloc (.cells #[.int .i64 0, .int .i64 0, .int .i64 0, .int .i64 0, .int .i64 0, .int .i64 0, .int .i64 0] 42)).alloc (.cells #[.int .i64 i] 3) := ⟨_, rfl⟩
  have hb1 : Below w.heap.size w w1 := by rw [hw1]; exact (by repeat (with_reducible first | exact Below.refl _ _ | assumption | (refine ext_next (by assumption) ?_) | apply ext_alloc | apply ext_past | apply ext_drew | apply ext_drewN))
  have HR1 : Hid (w1.heap[w.heap.size]? = some (.cells #[.int .i64 0, .int .i64 0, .int .i64 0, .int .i64 0, .int .i64 0, .int .i64 0, .int .i64 0] 42 (0, 0))) := Lib.hid (by rw [hw1]; exact alOld (alNew rfl))
  rw [← hw1]
  have HB1 := Lib.hid hb1
  clear hw1 hb1 t0 t1 t2 t3 t4 t5 t6 t7 t8 t9 hp hq
  obtain ⟨t0, t1, t2, t3, t4, t5, t6, t7, t8, t9⟩ := ten_at (H.out.ext HB1.out).top
  obtain ⟨hp, hq, _⟩ := (H.out.ext HB1.out).lt
  obtain ⟨c4, c5, c6, c7, _⟩ := HC.out _ HB1.out
  have hbl := Nat.lt_of_lt_of_le HY.out.1 HB1.out.size
  have y0 := (HB1.out.cell (p := ⟨b, _, none⟩) HY.out.1).trans HY.out.2.1
  have y1 := (HB1.out.cell (p := ⟨b, _, none⟩) HY.out.1).trans HY.out.2.2.1
  have y2 := (HB1.out.cell (p := ⟨b, _, none⟩) HY.out.1).trans HY.out.2.2.2.1
  have y3 := (HB1.out.cell (p := ⟨b, _, none⟩) HY.out.1).trans HY.out.2.2.2.2
  go_wp2_with fail
  go_region
  obtain ⟨w2, hw2⟩ : ∃ W, W = (w1.alloc (.cells #[.int .i64 5, .int .i64 ja, .int .i64 jb, .int .i64 c] 36)).drew := ⟨_, rfl⟩
  have hb2 : Below w1.heap.size w1 w2 := by rw [hw2]; exact ext_drew (ext_alloc _ (Below.refl _ _))
  have HX2 : Hid (w2.heap[w1.heap.size]? = some (.cells #[.int .i64 5, .int .i64 ja, .int .i64 jb, .int .i64 c] 36 (0, 0))) := Lib.hid (by rw [hw2]; exact alNew rfl)
  rw [← hw2]
  have HR2 := Lib.hid ((hb2.block _ (lt_of HR1.out)).trans HR1.out)
  have HB2 := Lib.hid (ext_trans HB1.out hb2)
  clear hw2 hb2 y0 y1 y2 y3 hbl t0 t1 t2 t3 t4 t5 t6 t7 t8 t9 hp hq c4 c5 c6 c7
  obtain ⟨hp, hq, _⟩ := (H.out.ext HB2.out).lt
  obtain ⟨c4, c5, c6, c7, _⟩ := HC.out _ HB2.out
  obtain ⟨x0, x1, x2, x3, xl⟩ := ins_cells (x := ⟨5, ja, jb, c⟩) HX2.out
  dsimp only at x0 x1 x2 x3
  go_wp2_with fail
  go_region
  obtain ⟨w3, hw3⟩ : ∃ W, W = (w2.alloc (.cells #[.int .i64 i, .int .i64 k, .int .i64 5, .int .i64 (M.se i).wo, .int .i64 0, .int .i64 0, .int .i64 0] 42)).drew := ⟨_, rfl⟩
  have hb3 : Below w2.heap.size w2 w3 := by rw [hw3]; exact ext_drew (ext_alloc _ (Below.refl _ _))
  have HE3 : Hid (w3.heap[w2.heap.size]? = some (.cells #[.int .i64 i, .int .i64 k, .int .i64 5, .int .i64 (M.se i).wo, .int .i64 0, .int .i64 0, .int .i64 0] 42 (0, 0))) := Lib.hid (by rw [hw3]; exact alNew rfl)
  rw [← hw3]
  have HS3 : Hid (Sp w w3 lo hi p qs qo pm lm hm cs co P w1.heap.size w2.heap.size M ⟨5, ja, jb, c⟩ ⟨i, k, 5, (M.se i).wo, 0, 0, 0⟩) := Lib.hid ⟨H.out.ext (ext_trans HB2.out hb3), HE3.out, (hb3.block _ (lt_of HR2.out)).trans HR2.out, (hb3.block _ (lt_of HX2.out)).trans HX2.out, Rg.of_below (ext_trans HB2.out hb3), H.out.sz, lt_of HR1.out, lt_of HX2.out⟩
  have HB3 := Lib.hid (ext_trans HB2.out hb3)
  clear hw3 hb3 x0 x1 x2 x3 xl hp hq c4 c5 c6 c7 HE3 HR1 HR2 HX2
  obtain ⟨c4, c5, c6, c7, cf⟩ := HC.out _ HB3.out
  generalize w2.heap.size = bE at *
  generalize w1.heap.size = bI at *
  obtain ⟨hp, hq, _⟩ := HS3.out.ma.lt
  obtain ⟨x0, x1, x2, x3, xl⟩ := ins_cells HS3.out.ins
  dsimp only at x0 x1 x2 x3
  obtain ⟨e0, e1, e2, e3, e4, e5, e6, ef, el⟩ := ev_cells HS3.out.ev
  dsimp only at e0 e1 e2 e3 e4 e5 e6
  have cf := (HS3.out.ma.sc i HI.out.1).2.2.2.2
  have hqE : qs ≠ bE := by have := HS3.out.sz; have := HS3.out.ma.bd; omega
  have rjb := HS3.out.ma.reg i HI.out.1 jb HJB.out
  go_wp2_with fail
  go_region
  obtain ⟨w4, hw4⟩ : ∃ W, W = (w3.setCell ⟨bE, 4, none⟩ (.int .i64 ((M.se i).r jb))).drew := ⟨_, rfl⟩
  have HS4 := Lib.hid ((HS3.out.wd ((M.se i).r jb)).ext (ext_drew (Below.refl _ _)))
  rw [← hw4] at HS4 ⊢
  clear hw4 hp hq x0 x1 x2 x3 xl e0 e1 e2 e3 e4 e5 e6 ef el cf
  (try clear rja)
  (try clear rjb)
  (try clear rjc)
  obtain ⟨hp, hq, _⟩ := HS4.out.ma.lt
  obtain ⟨x0, x1, x2, x3, xl⟩ := ins_cells HS4.out.ins
  dsimp only at x0 x1 x2 x3
  obtain ⟨e0, e1, e2, e3, e4, e5, e6, ef, el⟩ := ev_cells HS4.out.ev
  dsimp only at e0 e1 e2 e3 e4 e5 e6
  have cf := (HS4.out.ma.sc i HI.out.1).2.2.2.2
  have hqE : qs ≠ bE := by have := HS4.out.sz; have := HS4.out.ma.bd; omega
  go_wp2_with fail
  refine (aacc_swap HS4.out.ma (HL.out.keepR HS4.out.rg H.out.gl) i HI.out.1 ja jb kw c HJA.out HJB.out HMY.out.1 HMY.out.2.1 HMY.out.2.2).mono ?_
  rintro e w5 ⟨rfl, hm5, hr5⟩
  have HS5 := Lib.hid (HS4.out.rgm hr5 hm5)
  clear hr5 hm5 hp hq x0 x1 x2 x3 xl e0 e1 e2 e3 e4 e5 e6 ef el cf
  obtain ⟨hp, hq, _⟩ := HS5.out.ma.lt
  obtain ⟨x0, x1, x2, x3, xl⟩ := ins_cells HS5.out.ins
  dsimp only at x0 x1 x2 x3
  obtain ⟨e0, e1, e2, e3, e4, e5, e6, ef, el⟩ := ev_cells HS5.out.ev
  dsimp only at e0 e1 e2 e3 e4 e5 e6
  have cf := (HS5.out.ma.sc i HI.out.1).2.2.2.2
  have hqE : qs ≠ bE := by have := HS5.out.sz; have := HS5.out.ma.bd; omega
  go_wp2_with fail
  obtain ⟨w6, hw6⟩ : ∃ W, W = (w5.setCell ⟨bE, 5, none⟩ (.int .i64 (M.m.wd kw))).setCell ⟨bE, 6, none⟩ (.int .i64 0) := ⟨_, rfl⟩
  have HS6 := Lib.hid ((HS5.out.va (M.m.wd kw)).cd 0)
  rw [← hw6] at HS6 ⊢
  clear hw6 hp hq x0 x1 x2 x3 xl e0 e1 e2 e3 e4 e5 e6 ef el cf
  (try clear rja)
  (try clear rjb)
  (try clear rjc)
  refine (aturn HS6.out.ma i HI.out.1 ((k : Int) + 1) (by have := HI.out; omega) (by first | (have := HI.out.2.2; have := HLN.out; omega) | (rw [ps_setReg]; (try dsimp only); have := HI.out.2.2; have := HLN.out; omega) | (rw [ps_setWo]; (try dsimp only); have := HI.out.2.2; have := HLN.out; omega) | (dsimp only; have := HI.out.2.2; have := HLN.out; omega))).mono ?_
  rintro e wt ⟨⟨rr, rfl⟩, hmt, hrt⟩
  have HST := Lib.hid (HS6.out.rgm hrt hmt)
  clear hmt hrt
  (try clear e0 e1 e2 e3 e4 e5 e6 ef el)
  obtain ⟨e0, e1, e2, e3, e4, e5, e6, ef, el⟩ := ev_cells HST.out.ev
  obtain ⟨r0, r1, r2, r3, r4, r5, r6, rf, rl⟩ := ev_cells HST.out.rs
  dsimp only at e0 e1 e2 e3 e4 e5 e6
  go_wp2_with fail
  obtain ⟨w9, hw9⟩ : ∃ W, W = set7 wt w.heap.size (.int .i64 i) (.int .i64 k) (.int .i64 5) (.int .i64 (M.se i).wo) (.int .i64 ((M.se i).r jb)) (.int .i64 (M.m.wd kw)) (.int .i64 0) := ⟨_, rfl⟩
  have hbk := set7_blk (.int .i64 i) (.int .i64 k) (.int .i64 5) (.int .i64 (M.se i).wo) (.int .i64 ((M.se i).r jb)) (.int .i64 (M.m.wd kw)) (.int .i64 0) HST.out.rs
  have hrg := set7_rg wt w.heap.size (.int .i64 i) (.int .i64 k) (.int .i64 5) (.int .i64 (M.se i).wo) (.int .i64 ((M.se i).r jb)) (.int .i64 (M.m.wd kw)) (.int .i64 0)
  rw [← hw9] at hbk hrg
  unfold set7 at hw9
  rw [← hw9]
  clear r0 r1 r2 r3 r4 r5 r6 rf rl hw9
  obtain ⟨r0, r1, r2, r3, r4, r5, r6, rf, rl⟩ := ev_cells hbk
  (try simp only [Exit.inBlock, Exit.then]); refine bodyPost_ret (by simp [results, Tryd.results34, go_sem, r0, r1, r2, r3, r4, r5, r6]; try rfl) rfl ?_
  exact ⟨rfl, HST.out.ma.rgm hrg HST.out.sz.1, HST.out.rg.bx hrg (Nat.le_refl _)⟩
end

end Go.Proofs.YtkobeajbiendlaaDoor
