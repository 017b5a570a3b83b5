/- What this text holds: a machine's Step: calls of the monitor. Condition: the table of limits holds what its initialiser lays. -/
import Derived.Test.YtkobeajbiendlaaDoorAtD
namespace Go.Proofs.YtkobeajbiendlaaDoor
open Go.RowKit

section
variable {w : World} {lo hi p qs qo pm lm hm cs co : Nat} {P : Nat → Value} {M : Ma}
set_option maxRecDepth 100000 in
set_option maxHeartbeats 2000000 in
theorem astep_call (h : Mk w lo hi p qs qo pm lm hm cs co P M) (hL : Lims w) (i k : Nat) (busy : Bool) (a : Int) (jb jc : Nat) (hjb : jb < 4) (hjc : jc < 4) (hi' : i < M.nc) (ha : (M.se i).a = k) (hk : k < (M.se i).ps.length) (hl : (M.se i).ps.length ≤ 32) (ho : (M.se i).ov = false) (hx : atI (M.se i).ps k = ⟨8, a, jb, jc⟩)  :
    Calls Tryd.prog 34 #[.pointer (some ⟨p, 0, none⟩), .int .i64 i, .bool busy] w fun e w' => e = .returned (.tuple #[.agg #[.int .i64 i, .int .i64 k, .int .i64 8, .int .i64 (M.se i).wo, .int .i64 ((M.se i).r jb), .int .i64 ((M.se i).r jc), .int .i64 (M.call a (M.se i).wo ((M.se i).r jb) ((M.se i).r jc) busy).1], .int .i64 0]) ∧ Mk w' lo hi p qs qo pm lm hm cs co P ((Ma.setReg (M.call a (M.se i).wo ((M.se i).r jb) ((M.se i).r jc) busy).2 i jb (M.call a (M.se i).wo ((M.se i).r jb) ((M.se i).r jc) busy).1).turn i ((k : Int) + 1)) ∧ Rg lo hi w w' := by
  have H := Lib.hid h
  have HL := Lib.hid hL
  obtain ⟨t0, t1, t2, t3, t4, t5, t6, t7, t8, t9⟩ := ten_at h.top
  obtain ⟨hp, hq, _⟩ := h.lt
  have hn := Ma.n_of h.mm.ok
  have hI := inB_yes (l := 0) (m := (M.nc : Int) - 1) (x := i) (by omega)
  have hn1 : 1 ≤ (M.nc : Int) := by omega
  have hn2 : (M.nc : Int) ≤ 4 := by omega
  have hii : (i : Int) < (M.nc : Int) := by omega
  have hi4 : (i : Int) < 4 := by omega
  obtain ⟨A, cap, hP, hS, _⟩ := (h.pg i hi').1
  obtain ⟨b, off, hA, hbl, hcs⟩ := hS (by omega)
  subst hA
  have hck := hcs k hk
  rw [hx] at hck
  dsimp only at hck
  obtain ⟨y0, y1, y2, y3⟩ := hck
  clear hcs
  have hkl : (k : Int) < ((M.se i).ps.length : Int) := by omega
  have hk32 : (k : Int) ≤ 32 := by omega
  have HC := Lib.hid (fun (W : World) (hb : Below w.heap.size w W) => (h.ext hb).sc i hi')
  rw [ha, ho, hP] at HC
  have HY := Lib.hid (And.intro hbl (And.intro y0 (And.intro y1 (And.intro y2 y3))))
  have HI := Lib.hid (And.intro hi' (And.intro hk hl))
  have HJB := Lib.hid hjb
  have hjb4 : (jb : Int) < 4 := by omega
  clear hjb
  have HJC := Lib.hid hjc
  have hjc4 : (jc : Int) < 4 := by omega
  clear hjc
  obtain ⟨rr0, hr0⟩ : ∃ r, (M.call a (M.se i).wo ((M.se i).r jb) ((M.se i).r jc) busy) = r := ⟨_, rfl⟩
  obtain ⟨cd, M1⟩ := rr0
  have HSE := Lib.hid (call_same hr0)
  have HNC := Lib.hid (show i < M1.nc by unfold Ma.nc; rw [(call_same hr0).2]; exact hi')
  have HPS := Lib.hid (show (M1.se i).ps.length ≤ 1000 by rw [(call_same hr0).1]; omega)
  have HAC := Lib.hid (fun (W : World) (hk : Mk W lo hi p qs qo pm lm hm cs co P M) (hl : Lims W) => show Calls Tryd.prog 58 #[.pointer (some ⟨p, 0, none⟩), .int .i64 a, .int .i64 (M.se i).wo, .int .i64 ((M.se i).r jb), .int .i64 ((M.se i).r jc), .bool busy] W (fun e w' => e = .returned (.int .i64 cd) ∧ Mk w' lo hi p qs qo pm lm hm cs co P M1 ∧ Rg lo hi W w') by have := acall_any hk hl a (M.se i).wo ((M.se i).r jb) ((M.se i).r jc) busy; rw [hr0] at this; exact this)
  rw [hr0]
  dsimp only
  clear hr0
  clear h hL hn hi' ha hk hl ho hx hP hS y0 y1 y2 y3 hbl
  generalize hln : (M.se i).ps.length = ln at *
  have HLN := Lib.hid hln
  clear hln
  go_enter Tryd.func34, Tryd.ntmps34
  go_wp2_with fail
  refine (within_new _ _ _ _ _ _ (by simp)).mono ?_
  rintro e wx ⟨rfl, hw⟩
  rw [hw]
  clear hw
  obtain ⟨w1, hw1⟩ : ∃ W, W = (w.alloc (.cells #[.int .i64 0, .int .i64 0, .int .i64 0, .int .i64 0, .int .i64 0, .int .i64 0, .int .i64 0] 42)).alloc (.cells #[.int .i64 i] 3) := ⟨_, rfl⟩
  have hb1 : Below w.heap.size w w1 := by rw [hw1]; exact (by repeat (with_reducible first | exact Below.refl _ _ | assumption | (refine ext_next (by assumption) ?_) | apply ext_alloc | apply ext_past | apply ext_drew | apply ext_drewN))
  have HR1 : Hid (w1.heap[w.heap.size]? = some (.cells #[.int .i64 0, .int .i64 0, .int .i64 0, .int .i64 0, .int .i64 0, .int .i64 0, .int .i64 0] 42 (0, 0))) := Lib.hid (by rw [hw1]; exact alOld (alNew rfl))
  rw [← hw1]
  have HB1 := Lib.hid hb1
  clear hw1 hb1 t0 t1 t2 t3 t4 t5 t6 t7 t8 t9 hp hq
  obtain ⟨t0, t1, t2, t3, t4, t5, t6, t7, t8, t9⟩ := ten_at (H.out.ext HB1.out).top
  obtain ⟨hp, hq, _⟩ := (H.out.ext HB1.out).lt
  obtain ⟨c4, c5, c6, c7, _⟩ := HC.out _ HB1.out
  have hbl := Nat.lt_of_lt_of_le HY.out.1 HB1.out.size
  have y0 := (HB1.out.cell (p := ⟨b, _, none⟩) HY.out.1).trans HY.out.2.1
  have y1 := (HB1.out.cell (p := ⟨b, _, none⟩) HY.out.1).trans HY.out.2.2.1
  have y2 := (HB1.out.cell (p := ⟨b, _, none⟩) HY.out.1).trans HY.out.2.2.2.1
  have y3 := (HB1.out.cell (p := ⟨b, _, none⟩) HY.out.1).trans HY.out.2.2.2.2
  go_wp2_with fail
  go_region
  obtain ⟨w2, hw2⟩ : ∃ W, W = (w1.alloc (.cells #[.int .i64 8, .int .i64 a, .int .i64 jb, .int .i64 jc] 36)).drew := ⟨_, rfl⟩
  have hb2 : Below w1.heap.size w1 w2 := by rw [hw2]; exact ext_drew (ext_alloc _ (Below.refl _ _))
  have HX2 : Hid (w2.heap[w1.heap.size]? = some (.cells #[.int .i64 8, .int .i64 a, .int .i64 jb, .int .i64 jc] 36 (0, 0))) := Lib.hid (by rw [hw2]; exact alNew rfl)
  rw [← hw2]
  have HR2 := Lib.hid ((hb2.block _ (lt_of HR1.out)).trans HR1.out)
  have HB2 := Lib.hid (ext_trans HB1.out hb2)
  clear hw2 hb2 y0 y1 y2 y3 hbl t0 t1 t2 t3 t4 t5 t6 t7 t8 t9 hp hq c4 c5 c6 c7
  obtain ⟨hp, hq, _⟩ := (H.out.ext HB2.out).lt
  obtain ⟨c4, c5, c6, c7, _⟩ := HC.out _ HB2.out
  obtain ⟨x0, x1, x2, x3, xl⟩ := ins_cells (x := ⟨8, a, jb, jc⟩) HX2.out
  dsimp only at x0 x1 x2 x3
  go_wp2_with fail
  go_region
  obtain ⟨w3, hw3⟩ : ∃ W, W = (w2.alloc (.cells #[.int .i64 i, .int .i64 k, .int .i64 8, .int .i64 (M.se i).wo, .int .i64 0, .int .i64 0, .int .i64 0] 42)).drew := ⟨_, rfl⟩
  have hb3 : Below w2.heap.size w2 w3 := by rw [hw3]; exact ext_drew (ext_alloc _ (Below.refl _ _))
  have HE3 : Hid (w3.heap[w2.heap.size]? = some (.cells #[.int .i64 i, .int .i64 k, .int .i64 8, .int .i64 (M.se i).wo, .int .i64 0, .int .i64 0, .int .i64 0] 42 (0, 0))) := Lib.hid (by rw [hw3]; exact alNew rfl)
  rw [← hw3]
  have HS3 : Hid (Sp w w3 lo hi p qs qo pm lm hm cs co P w1.heap.size w2.heap.size M ⟨8, a, jb, jc⟩ ⟨i, k, 8, (M.se i).wo, 0, 0, 0⟩) := Lib.hid ⟨H.out.ext (ext_trans HB2.out hb3), HE3.out, (hb3.block _ (lt_of HR2.out)).trans HR2.out, (hb3.block _ (lt_of HX2.out)).trans HX2.out, Rg.of_below (ext_trans HB2.out hb3), H.out.sz, lt_of HR1.out, lt_of HX2.out⟩
  have HB3 := Lib.hid (ext_trans HB2.out hb3)
  clear hw3 hb3 x0 x1 x2 x3 xl hp hq c4 c5 c6 c7 HE3 HR1 HR2 HX2
  obtain ⟨c4, c5, c6, c7, cf⟩ := HC.out _ HB3.out
  generalize w2.heap.size = bE at *
  generalize w1.heap.size = bI at *
  obtain ⟨hp, hq, _⟩ := HS3.out.ma.lt
  obtain ⟨x0, x1, x2, x3, xl⟩ := ins_cells HS3.out.ins
  dsimp only at x0 x1 x2 x3
  obtain ⟨e0, e1, e2, e3, e4, e5, e6, ef, el⟩ := ev_cells HS3.out.ev
  dsimp only at e0 e1 e2 e3 e4 e5 e6
  have cf := (HS3.out.ma.sc i HI.out.1).2.2.2.2
  have hqE : qs ≠ bE := by have := HS3.out.sz; have := HS3.out.ma.bd; omega
  have rjb := HS3.out.ma.reg i HI.out.1 jb HJB.out
  have rjc := HS3.out.ma.reg i HI.out.1 jc HJC.out
  have hIE : bI ≠ bE := by have := HS3.out.sz; omega
  go_wp2_with fail
  have QQ := And.intro x2 (And.intro x3 (And.intro rjb rjc))
  go_region_held3 (fun w' => w'.cell? ⟨bI, 2, none⟩ = some (.int .i64 jb) ∧ w'.cell? ⟨bI, 3, none⟩ = some (.int .i64 jc) ∧ w'.cell? ⟨qs, i * 8 + jb, none⟩ = some (.int .i64 ((M.se i).r jb)) ∧ w'.cell? ⟨qs, i * 8 + jc, none⟩ = some (.int .i64 ((M.se i).r jc)))
    (first | exact QQ | exact ⟨(cellO _ _ _ _ hIE).trans QQ.1, (cellO _ _ _ _ hIE).trans QQ.2.1, (cellO _ _ _ _ hqE).trans QQ.2.2.1, (cellO _ _ _ _ hqE).trans QQ.2.2.2⟩ | exact ⟨((cellO _ _ _ _ hIE).trans (cellO _ _ _ _ hIE)).trans QQ.1, ((cellO _ _ _ _ hIE).trans (cellO _ _ _ _ hIE)).trans QQ.2.1, ((cellO _ _ _ _ hqE).trans (cellO _ _ _ _ hqE)).trans QQ.2.2.1, ((cellO _ _ _ _ hqE).trans (cellO _ _ _ _ hqE)).trans QQ.2.2.2⟩)
    (first | fail)
  clear QQ
  obtain ⟨w4, hw4⟩ : ∃ W, W = ((w3.setCell ⟨bE, 4, none⟩ (.int .i64 ((M.se i).r jb))).setCell ⟨bE, 5, none⟩ (.int .i64 ((M.se i).r jc))).drew := ⟨_, rfl⟩
  have HS4 := Lib.hid (((HS3.out.wd ((M.se i).r jb)).va ((M.se i).r jc)).ext (ext_drew (Below.refl _ _)))
  rw [← hw4] at HS4 ⊢
  clear hw4 hp hq x0 x1 x2 x3 xl e0 e1 e2 e3 e4 e5 e6 ef el cf
  (try clear rja)
  (try clear rjb)
  (try clear rjc)
  obtain ⟨hp, hq, _⟩ := HS4.out.ma.lt
  obtain ⟨x0, x1, x2, x3, xl⟩ := ins_cells HS4.out.ins
  dsimp only at x0 x1 x2 x3
  obtain ⟨e0, e1, e2, e3, e4, e5, e6, ef, el⟩ := ev_cells HS4.out.ev
  dsimp only at e0 e1 e2 e3 e4 e5 e6
  have cf := (HS4.out.ma.sc i HI.out.1).2.2.2.2
  have hqE : qs ≠ bE := by have := HS4.out.sz; have := HS4.out.ma.bd; omega
  have c5 := (HS4.out.ma.sc i HI.out.1).2.1
  have HA4 := Lib.hid (HAC.out w4.drew (HS4.out.ext (ext_drew (Below.refl _ _))).ma ((HL.out.keepR HS4.out.rg H.out.gl).ext (ext_drew (Below.refl _ _))))
  go_wp2_with fail
  have QQ := And.intro x1 (And.intro c5 (And.intro e4 e5))
  have QQ6 := QQ
  go_region_held3 (fun w' => w'.cell? ⟨bI, 1, none⟩ = some (.int .i64 a) ∧ w'.cell? ⟨qs, i * 8 + 5, none⟩ = some (.int .i64 (M.se i).wo) ∧ w'.cell? ⟨bE, 4, none⟩ = some (.int .i64 ((M.se i).r jb)) ∧ w'.cell? ⟨bE, 5, none⟩ = some (.int .i64 ((M.se i).r jc)))
    (first | exact QQ | exact QQ6)
    (first
      | (go_at_call 58; refine HA4.out.mono ?_; rintro e w5 ⟨rfl, hm5, hr5⟩; have HS5 := Lib.hid ((HS4.out.ext (ext_drew (Below.refl _ _))).rgm hr5 hm5); have QQ := And.intro (ins_cells HS5.out.ins).2.1 (And.intro ((HS5.out.ma.sc i HNC.out).2.1.trans (by rw [HSE.out.1])) (And.intro (ev_cells HS5.out.ev).2.2.2.2.1 (ev_cells HS5.out.ev).2.2.2.2.2.1)); have HS6 := Lib.hid (HS5.out.cd cd); have QQ6 := And.intro (ins_cells HS6.out.ins).2.1 (And.intro ((HS6.out.ma.sc i HNC.out).2.1.trans (by rw [HSE.out.1])) (And.intro (ev_cells HS6.out.ev).2.2.2.2.1 (ev_cells HS6.out.ev).2.2.2.2.2.1)); have e6' := (ev_cells HS5.out.ev).2.2.2.2.2.2.1; have ef' := (ev_cells HS5.out.ev).2.2.2.2.2.2.2.1; have el' := (ev_cells HS5.out.ev).2.2.2.2.2.2.2.2; clear hm5 hr5))
  clear QQ QQ6 e6' ef' el' hp hq x0 x1 x2 x3 xl e0 e1 e2 e3 e4 e5 e6 ef el cf c5
  obtain ⟨w6, hw6⟩ : ∃ W, W = w5.setCell ⟨bE, 6, none⟩ (.int .i64 cd) := ⟨_, rfl⟩
  rw [← hw6] at HS6 ⊢
  clear hw6
  obtain ⟨hp, hq, _⟩ := HS6.out.ma.lt
  obtain ⟨x0, x1, x2, x3, xl⟩ := ins_cells HS6.out.ins
  dsimp only at x0 x1 x2 x3
  obtain ⟨e0, e1, e2, e3, e4, e5, e6, ef, el⟩ := ev_cells HS6.out.ev
  dsimp only at e0 e1 e2 e3 e4 e5 e6
  have cf := (HS6.out.ma.sc i HNC.out).2.2.2.2
  have rjb := HS6.out.ma.reg i HNC.out jb HJB.out
  go_wp2_with fail
  go_region
  obtain ⟨w7, hw7⟩ : ∃ W, W = (w6.setCell ⟨qs, i * 8 + jb, none⟩ (.int .i64 cd)).drew := ⟨_, rfl⟩
  have HS7 := Lib.hid ((HS6.out.reg i jb HJB.out cd).ext (ext_drew (Below.refl _ _)))
  rw [← hw7] at HS7 ⊢
  clear hw7 hp hq x0 x1 x2 x3 xl e0 e1 e2 e3 e4 e5 e6 ef el cf
  (try clear rja)
  (try clear rjb)
  (try clear rjc)
  go_wp2_with fail
  refine (aturn HS7.out.ma i HNC.out ((k : Int) + 1) (by have := HI.out; omega) (by rw [ps_setReg]; exact HPS.out)).mono ?_
  rintro e wt ⟨⟨rr, rfl⟩, hmt, hrt⟩
  have HST := Lib.hid (HS7.out.rgm hrt hmt)
  clear hmt hrt
  (try clear e0 e1 e2 e3 e4 e5 e6 ef el)
  obtain ⟨e0, e1, e2, e3, e4, e5, e6, ef, el⟩ := ev_cells HST.out.ev
  obtain ⟨r0, r1, r2, r3, r4, r5, r6, rf, rl⟩ := ev_cells HST.out.rs
  dsimp only at e0 e1 e2 e3 e4 e5 e6
  go_wp2_with fail
  obtain ⟨w9, hw9⟩ : ∃ W, W = set7 wt w.heap.size (.int .i64 i) (.int .i64 k) (.int .i64 8) (.int .i64 (M.se i).wo) (.int .i64 ((M.se i).r jb)) (.int .i64 ((M.se i).r jc)) (.int .i64 cd) := ⟨_, rfl⟩
  have hbk := set7_blk (.int .i64 i) (.int .i64 k) (.int .i64 8) (.int .i64 (M.se i).wo) (.int .i64 ((M.se i).r jb)) (.int .i64 ((M.se i).r jc)) (.int .i64 cd) HST.out.rs
  have hrg := set7_rg wt w.heap.size (.int .i64 i) (.int .i64 k) (.int .i64 8) (.int .i64 (M.se i).wo) (.int .i64 ((M.se i).r jb)) (.int .i64 ((M.se i).r jc)) (.int .i64 cd)
  rw [← hw9] at hbk hrg
  unfold set7 at hw9
  rw [← hw9]
  clear r0 r1 r2 r3 r4 r5 r6 rf rl hw9
  obtain ⟨r0, r1, r2, r3, r4, r5, r6, rf, rl⟩ := ev_cells hbk
  (try simp only [Exit.inBlock, Exit.then]); refine bodyPost_ret (by simp [results, Tryd.results34, go_sem, r0, r1, r2, r3, r4, r5, r6]; try rfl) rfl ?_
  exact ⟨rfl, HST.out.ma.rgm hrg HST.out.sz.1, HST.out.rg.bx hrg (Nat.le_refl _)⟩
end

end Go.Proofs.YtkobeajbiendlaaDoor
