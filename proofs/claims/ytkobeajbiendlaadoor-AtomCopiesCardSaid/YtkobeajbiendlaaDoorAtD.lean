/- What this text holds: a machine's Load, Store and Swap; a call of its monitor. Condition: the table of limits holds what its initialiser lays. What this text holds: a call of a machine's monitor. Condition: the table of limits holds what its initialiser lays. What this text holds: a machine's Step, op by op. Condition: the table of limits holds what its initialiser lays. What this text holds: a machine's Owner, Get, Core. Condition: the table of limits holds what its initialiser lays. What this text holds: what a machine's Step and Next refuse. No condition. What this text holds: a machine's Next: the instruction that a core would do. Condition: none. -/
import Derived.Test.YtkobeajbiendlaaDoorAto
import Derived.Test.YtkobeajbiendlaaDoorBnk
import Derived.BigRegion
import Derived.StillTailTactics
import Derived.Deep.RegionHeld3
namespace Go.Proofs.YtkobeajbiendlaaDoor
open Go.RowKit

theorem may_true {M : Ma} {wo x : Int} (h : M.may wo x = true) : ∃ k : Nat, x = k ∧ k < 2 * M.m.n ∧ mayT wo (M.ow (k / 4)) = true := by
  unfold Ma.may at h
  simp only [Bool.and_eq_true, decide_eq_true_eq] at h
  obtain ⟨⟨h1, h2⟩, h3⟩ := h
  exact ⟨x.toNat, by omega, by omega, h3⟩
theorem amay_any {w : World} {lo hi p qs qo pm lm hm cs co : Nat} {P : Nat → Value} {M : Ma} (h : Mk w lo hi p qs qo pm lm hm cs co P M) (hL : Lims w) (wo x : Int) :
    Calls Tryd.prog 78 #[.pointer (some ⟨p, 0, none⟩), .int .i64 wo, .int .i64 x] w fun e w' => e = .returned (.bool (M.may wo x)) ∧ Below w.heap.size w w' := by
  by_cases hx : x < 0 ∨ 2 * (M.m.n : Int) ≤ x
  · rw [may_out hx]
    exact amay_no h hL wo x hx
  · obtain ⟨k, rfl⟩ : ∃ k : Nat, x = k := ⟨x.toNat, by omega⟩
    rw [may_in (by omega)]
    exact amay_ok h hL wo k (by omega)
/-- What lies in a box of an instruction. -/
theorem ins_new (w : World) (x : Ins) : (w.alloc (.cells #[.int .i64 x.op, .int .i64 x.a, .int .i64 x.b, .int .i64 x.c] 36)).heap[w.heap.size]? = some (.cells #[.int .i64 x.op, .int .i64 x.a, .int .i64 x.b, .int .i64 x.c] 36 (0, 0)) := alNew rfl
theorem Mk.mrg {w w' : World} {lo hi p qs qo pm lm hm cs co : Nat} {P : Nat → Value} {M : Ma} (h : Mk w lo hi p qs qo pm lm hm cs co P M) (hr : Rg lm hm w w') : Rg lo hi w w' :=
  hr.mono h.bd.2.2.2.2.2.2.1 h.bd.2.2.2.2.2.2.2
set_option maxHeartbeats 2000000 in
theorem aacc_no {w : World} {lo hi p qs qo pm lm hm cs co : Nat} {P : Nat → Value} {M : Ma} (h : Mk w lo hi p qs qo pm lm hm cs co P M) (hL : Lims w) (i : Nat) (hi' : i < M.nc) (o a c : Int) (jb : Nat) (hb : jb < 4) (ho : o = 3 ∨ o = 4 ∨ o = 5) (hm' : M.may (M.se i).wo ((M.se i).r jb) = false) :
    Calls Tryd.prog 57 #[.pointer (some ⟨p, 0, none⟩), .pointer (some ⟨qs, i * 8, none⟩), .agg #[.int .i64 o, .int .i64 a, .int .i64 jb, .int .i64 c]] w fun e w' => e = .returned (.tuple #[.int .i64 0, .int .i64 19]) ∧ Below w.heap.size w w' := by
  have h1 := h.reg i hi' jb hb
  obtain ⟨_, c5, _, _, _⟩ := h.sc i hi'
  obtain ⟨hp, hq, _⟩ := h.lt
  have hi4 : (i : Int) ≤ 4 := by have := (Ma.n_of h.mm.ok).2.2.1; omega
  have hj4 : (jb : Int) < 4 := by omega
  have HC := fun (W : World) (hb : Below w.heap.size w W) => amay_any (h.ext hb) (hL.ext hb) (M.se i).wo ((M.se i).r jb)
  rw [hm'] at HC
  have HC := Lib.hid HC
  clear h hL hm' hi' hb
  generalize (M.se i).r jb = x at *
  generalize (M.se i).wo = wo at *
  rcases ho with rfl | rfl | rfl
  ·
    go_enter Tryd.func57, Tryd.ntmps57
    go_wp2_with fail
    go_step3
    go_wp2_with fail
    go_region
    obtain ⟨w0, hw0⟩ : ∃ W, W = (w.alloc (.cells #[.int .i64 3, .int .i64 a, .int .i64 jb, .int .i64 c] 36)).drew := ⟨_, rfl⟩
    have hb0 : Below w.heap.size w w0 := by rw [hw0]; exact ext_drew (ext_alloc _ (Below.refl _ _))
    have hx0 : w0.heap[w.heap.size]? = some (.cells #[.int .i64 3, .int .i64 a, .int .i64 jb, .int .i64 c] 36 (0, 0)) := by rw [hw0]; exact ins_new w ⟨3, a, jb, c⟩
    rw [← hw0]
    have HB0 := Lib.hid hb0
    have HX0 := Lib.hid hx0
    obtain ⟨x0, x1, x2, x3, xl⟩ := ins_cells (x := ⟨3, a, jb, c⟩) hx0
    dsimp only at x0 x1 x2 x3
    have c5' := (hb0.cell (p := ⟨qs, i * 8 + 5, none⟩) hq).trans c5
    have hq' := Nat.lt_of_lt_of_le hq hb0.size
    clear hw0 hb0 hx0 h1 c5
    go_wp2_with fail
    go_step3
    go_wp2_with fail
    refine (HC.out _ HB0.out).mono ?_
    rintro e w1 ⟨rfl, hb⟩
    have HB1 := Lib.hid (ext_trans HB0.out hb)
    clear hb x0 x1 x2 x3 xl c5' hq'
    go_wp2_with fail
    (try rw [Exit.noGoto_ret])
    go_ret2
    exact ⟨rfl, HB1.out⟩
  ·
    go_enter Tryd.func57, Tryd.ntmps57
    go_wp2_with fail
    go_step3
    go_wp2_with fail
    go_region
    obtain ⟨w0, hw0⟩ : ∃ W, W = (w.alloc (.cells #[.int .i64 4, .int .i64 a, .int .i64 jb, .int .i64 c] 36)).drew := ⟨_, rfl⟩
    have hb0 : Below w.heap.size w w0 := by rw [hw0]; exact ext_drew (ext_alloc _ (Below.refl _ _))
    have hx0 : w0.heap[w.heap.size]? = some (.cells #[.int .i64 4, .int .i64 a, .int .i64 jb, .int .i64 c] 36 (0, 0)) := by rw [hw0]; exact ins_new w ⟨4, a, jb, c⟩
    rw [← hw0]
    have HB0 := Lib.hid hb0
    have HX0 := Lib.hid hx0
    obtain ⟨x0, x1, x2, x3, xl⟩ := ins_cells (x := ⟨4, a, jb, c⟩) hx0
    dsimp only at x0 x1 x2 x3
    have c5' := (hb0.cell (p := ⟨qs, i * 8 + 5, none⟩) hq).trans c5
    have hq' := Nat.lt_of_lt_of_le hq hb0.size
    clear hw0 hb0 hx0 h1 c5
    go_wp2_with fail
    go_step3
    go_wp2_with fail
    refine (HC.out _ HB0.out).mono ?_
    rintro e w1 ⟨rfl, hb⟩
    have HB1 := Lib.hid (ext_trans HB0.out hb)
    clear hb x0 x1 x2 x3 xl c5' hq'
    go_wp2_with fail
    (try rw [Exit.noGoto_ret])
    go_ret2
    exact ⟨rfl, HB1.out⟩
  ·
    go_enter Tryd.func57, Tryd.ntmps57
    go_wp2_with fail
    go_step3
    go_wp2_with fail
    go_region
    obtain ⟨w0, hw0⟩ : ∃ W, W = (w.alloc (.cells #[.int .i64 5, .int .i64 a, .int .i64 jb, .int .i64 c] 36)).drew := ⟨_, rfl⟩
    have hb0 : Below w.heap.size w w0 := by rw [hw0]; exact ext_drew (ext_alloc _ (Below.refl _ _))
    have hx0 : w0.heap[w.heap.size]? = some (.cells #[.int .i64 5, .int .i64 a, .int .i64 jb, .int .i64 c] 36 (0, 0)) := by rw [hw0]; exact ins_new w ⟨5, a, jb, c⟩
    rw [← hw0]
    have HB0 := Lib.hid hb0
    have HX0 := Lib.hid hx0
    obtain ⟨x0, x1, x2, x3, xl⟩ := ins_cells (x := ⟨5, a, jb, c⟩) hx0
    dsimp only at x0 x1 x2 x3
    have c5' := (hb0.cell (p := ⟨qs, i * 8 + 5, none⟩) hq).trans c5
    have hq' := Nat.lt_of_lt_of_le hq hb0.size
    clear hw0 hb0 hx0 h1 c5
    go_wp2_with fail
    go_step3
    go_wp2_with fail
    refine (HC.out _ HB0.out).mono ?_
    rintro e w1 ⟨rfl, hb⟩
    have HB1 := Lib.hid (ext_trans HB0.out hb)
    clear hb x0 x1 x2 x3 xl c5' hq'
    go_wp2_with fail
    (try rw [Exit.noGoto_ret])
    go_ret2
    exact ⟨rfl, HB1.out⟩
set_option maxHeartbeats 2000000 in
theorem aacc_load {w : World} {lo hi p qs qo pm lm hm cs co : Nat} {P : Nat → Value} {M : Ma} (h : Mk w lo hi p qs qo pm lm hm cs co P M) (hL : Lims w) (i : Nat) (hi' : i < M.nc) (ja jb k : Nat) (c : Int) (ha : ja < 4) (hb : jb < 4) (hk : k < 2 * M.m.n) (hx : (M.se i).r jb = k) (hm' : M.may (M.se i).wo k = true) :
    Calls Tryd.prog 57 #[.pointer (some ⟨p, 0, none⟩), .pointer (some ⟨qs, i * 8, none⟩), .agg #[.int .i64 3, .int .i64 ja, .int .i64 jb, .int .i64 c]] w fun e w' => e = .returned (.tuple #[.int .i64 (M.m.wd k), .int .i64 0]) ∧ Mk w' lo hi p qs qo pm lm hm cs co P (M.setReg i ja (M.m.wd k)) ∧ Rg lo hi w w' := by
  have h1 := h.reg i hi' jb hb
  obtain ⟨_, c5, _, _, _⟩ := h.sc i hi'
  obtain ⟨hp, hq, _⟩ := h.lt
  have hi4 : (i : Int) ≤ 4 := by have := (Ma.n_of h.mm.ok).2.2.1; omega
  have hj4 : (jb : Int) < 4 := by omega
  rw [hx] at h1
  have ra := h.reg i hi' ja ha
  have hf := (h.sc i hi').2.2.2.2
  have hja4 : (ja : Int) < 4 := by omega
  have HC := fun (W : World) (hb : Below w.heap.size w W) => amay_any (h.ext hb) (hL.ext hb) (M.se i).wo k
  rw [hm'] at HC
  have HC := Lib.hid HC
  have HL := Lib.hid hL
  have H := Lib.hid h
  have HA := Lib.hid (And.intro ha (And.intro hi' hk))
  have HG := Lib.hid (fun (W : World) (hb : Below w.heap.size w W) => bget_ok (h.ext hb).mm (hL.ext hb) k hk)
  clear h hL hm' hi' hb ha hx hk
  generalize hwo : (M.se i).wo = wo at *
  clear hwo
  go_enter Tryd.func57, Tryd.ntmps57
  go_wp2_with fail
  go_step3
  go_wp2_with fail
  go_region
  obtain ⟨w0, hw0⟩ : ∃ W, W = (w.alloc (.cells #[.int .i64 3, .int .i64 ja, .int .i64 jb, .int .i64 c] 36)).drew := ⟨_, rfl⟩
  have hb0 : Below w.heap.size w w0 := by rw [hw0]; exact ext_drew (ext_alloc _ (Below.refl _ _))
  have hx0 : w0.heap[w.heap.size]? = some (.cells #[.int .i64 3, .int .i64 ja, .int .i64 jb, .int .i64 c] 36 (0, 0)) := by rw [hw0]; exact ins_new w ⟨3, ja, jb, c⟩
  rw [← hw0]
  have HB0 := Lib.hid hb0
  have HX0 := Lib.hid hx0
  obtain ⟨x0, x1, x2, x3, xl⟩ := ins_cells (x := ⟨3, ja, jb, c⟩) hx0
  dsimp only at x0 x1 x2 x3
  have c5' := (hb0.cell (p := ⟨qs, i * 8 + 5, none⟩) hq).trans c5
  have hq' := Nat.lt_of_lt_of_le hq hb0.size
  clear hw0 hb0 hx0 h1 c5
  go_wp2_with fail
  go_step3
  go_wp2_with fail
  refine (HC.out _ HB0.out).mono ?_
  rintro e w1 ⟨rfl, hb⟩
  have HB1 := Lib.hid (ext_trans HB0.out hb)
  have HX1 := Lib.hid ((hb.block _ (lt_of HX0.out)).trans HX0.out)
  clear hb x0 x1 x2 x3 xl c5' hq' hp hq
  obtain ⟨t0, t1, t2, t3, t4, t5, t6, t7, t8, t9⟩ := ten_at (H.out.ext HB1.out).top
  obtain ⟨hp, hq, _⟩ := (H.out.ext HB1.out).lt
  go_wp2_with fail
  refine (HG.out w1 HB1.out).mono ?_
  rintro e w2 ⟨rfl, hb⟩
  have HB2 := Lib.hid (ext_trans HB1.out hb)
  have HX2 := Lib.hid ((hb.block _ (lt_of HX1.out)).trans HX1.out)
  have HM2 := Lib.hid (H.out.ext HB2.out)
  clear hb t0 t1 t2 t3 t4 t5 t6 t7 t8 t9 hp hq hf ra
  obtain ⟨t0, t1, t2, t3, t4, t5, t6, t7, t8, t9⟩ := ten_at HM2.out.top
  obtain ⟨hp, hq, _⟩ := HM2.out.lt
  obtain ⟨x0, x1, x2, x3, xl⟩ := ins_cells (x := ⟨3, ja, jb, c⟩) HX2.out
  dsimp only at x0 x1 x2 x3
  have ra := HM2.out.reg i HA.out.2.1 ja HA.out.1
  have hf := (HM2.out.sc i HA.out.2.1).2.2.2.2
  have hne : qs ≠ w.heap.size := by have := H.out.lt.2.1; omega
  go_wp2_with fail
  go_region
  go_wp2_with fail
  (try rw [Exit.noGoto_ret])
  go_ret2
  exact ⟨rfl, (HM2.out.reg_set i ja HA.out.1 (M.m.wd k)).ext (ext_drew (Below.refl _ _)), ((Rg.of_below HB2.out).trans (Rg.set w2 _ HM2.out.bd.2.2.1 HM2.out.bd.2.2.2.1)).trans (Rg.of_below (ext_drew (Below.refl _ _)))⟩
set_option maxRecDepth 100000 in
set_option maxHeartbeats 2000000 in
theorem aacc_store {w : World} {lo hi p qs qo pm lm hm cs co : Nat} {P : Nat → Value} {M : Ma} (h : Mk w lo hi p qs qo pm lm hm cs co P M) (hL : Lims w) (i : Nat) (hi' : i < M.nc) (ja jb k : Nat) (c : Int) (ha : ja < 4) (hb : jb < 4) (hk : k < 2 * M.m.n) (hx : (M.se i).r jb = k) (hm' : M.may (M.se i).wo k = true) :
    Calls Tryd.prog 57 #[.pointer (some ⟨p, 0, none⟩), .pointer (some ⟨qs, i * 8, none⟩), .agg #[.int .i64 4, .int .i64 ja, .int .i64 jb, .int .i64 c]] w fun e w' => e = .returned (.tuple #[.int .i64 ((M.se i).r ja), .int .i64 0]) ∧ Mk w' lo hi p qs qo pm lm hm cs co P { M with m := M.m.setWd k ((M.se i).r ja) } ∧ Rg lo hi w w' := by
  have h1 := h.reg i hi' jb hb
  obtain ⟨_, c5, _, _, _⟩ := h.sc i hi'
  obtain ⟨hp, hq, _⟩ := h.lt
  have hi4 : (i : Int) ≤ 4 := by have := (Ma.n_of h.mm.ok).2.2.1; omega
  have hj4 : (jb : Int) < 4 := by omega
  rw [hx] at h1
  have ra := h.reg i hi' ja ha
  have hf := (h.sc i hi').2.2.2.2
  have hja4 : (ja : Int) < 4 := by omega
  have HC := fun (W : World) (hb : Below w.heap.size w W) => amay_any (h.ext hb) (hL.ext hb) (M.se i).wo k
  rw [hm'] at HC
  have HC := Lib.hid HC
  have HL := Lib.hid hL
  have H := Lib.hid h
  have HA := Lib.hid (And.intro ha (And.intro hi' hk))
  have HG := Lib.hid (fun (W : World) (hb : Below w.heap.size w W) => bget_ok (h.ext hb).mm (hL.ext hb) k hk)
  clear h hL hm' hi' hb ha hx hk
  generalize hwo : (M.se i).wo = wo at *
  clear hwo
  go_enter Tryd.func57, Tryd.ntmps57
  go_wp2_with fail
  go_step3
  go_wp2_with fail
  go_region
  obtain ⟨w0, hw0⟩ : ∃ W, W = (w.alloc (.cells #[.int .i64 4, .int .i64 ja, .int .i64 jb, .int .i64 c] 36)).drew := ⟨_, rfl⟩
  have hb0 : Below w.heap.size w w0 := by rw [hw0]; exact ext_drew (ext_alloc _ (Below.refl _ _))
  have hx0 : w0.heap[w.heap.size]? = some (.cells #[.int .i64 4, .int .i64 ja, .int .i64 jb, .int .i64 c] 36 (0, 0)) := by rw [hw0]; exact ins_new w ⟨4, ja, jb, c⟩
  rw [← hw0]
  have HB0 := Lib.hid hb0
  have HX0 := Lib.hid hx0
  obtain ⟨x0, x1, x2, x3, xl⟩ := ins_cells (x := ⟨4, ja, jb, c⟩) hx0
  dsimp only at x0 x1 x2 x3
  have c5' := (hb0.cell (p := ⟨qs, i * 8 + 5, none⟩) hq).trans c5
  have hq' := Nat.lt_of_lt_of_le hq hb0.size
  clear hw0 hb0 hx0 h1 c5
  go_wp2_with fail
  go_step3
  go_wp2_with fail
  refine (HC.out _ HB0.out).mono ?_
  rintro e w1 ⟨rfl, hb⟩
  have HB1 := Lib.hid (ext_trans HB0.out hb)
  have HX1 := Lib.hid ((hb.block _ (lt_of HX0.out)).trans HX0.out)
  clear hb x0 x1 x2 x3 xl c5' hq' hp hq
  obtain ⟨t0, t1, t2, t3, t4, t5, t6, t7, t8, t9⟩ := ten_at (H.out.ext HB1.out).top
  obtain ⟨hp, hq, _⟩ := (H.out.ext HB1.out).lt
  go_wp2_with fail
  refine (HG.out w1 HB1.out).mono ?_
  rintro e w2 ⟨rfl, hb⟩
  have HB2 := Lib.hid (ext_trans HB1.out hb)
  have HX2 := Lib.hid ((hb.block _ (lt_of HX1.out)).trans HX1.out)
  have HM2 := Lib.hid (H.out.ext HB2.out)
  clear hb t0 t1 t2 t3 t4 t5 t6 t7 t8 t9 hp hq hf ra
  obtain ⟨t0, t1, t2, t3, t4, t5, t6, t7, t8, t9⟩ := ten_at HM2.out.top
  obtain ⟨hp, hq, _⟩ := HM2.out.lt
  obtain ⟨x0, x1, x2, x3, xl⟩ := ins_cells (x := ⟨4, ja, jb, c⟩) HX2.out
  dsimp only at x0 x1 x2 x3
  have ra := HM2.out.reg i HA.out.2.1 ja HA.out.1
  have hf := (HM2.out.sc i HA.out.2.1).2.2.2.2
  have hne : qs ≠ w.heap.size := by have := H.out.lt.2.1; omega
  go_wp2_with fail
  have hL2 := Lib.hid (HL.out.ext HB2.out)
  have HSW := Lib.hid (bset_ok (HM2.out.ext (ext_drew (Below.refl _ _))).mm (hL2.out.ext (ext_drew (Below.refl _ _))) k HA.out.2.2 ((M.se i).r ja))
  go_still_tail 13, (by kernel_rfl)
  change wpList _ _ _ _ _ w2.drew
  go_wp2_with fail
  refine HSW.out.mono ?_
  rintro e w3 ⟨rfl, hm3, hr3⟩
  have HM3 := Lib.hid ((HM2.out.ext (ext_drew (Below.refl _ _))).mem hr3 hm3 rfl)
  have HR3 := Lib.hid (((Rg.of_below (lo := lo) (hi := hi) HB2.out).trans (Rg.of_below (ext_drew (Below.refl _ _)))).trans (hr3.mono HM2.out.bd.2.2.2.2.2.2.1 HM2.out.bd.2.2.2.2.2.2.2))
  have HX3 := Lib.hid ((hr3.block w.heap.size xl (.inr (by have := HM2.out.bd.2.2.2.2.2.2.2; have := H.out.sz; omega))).trans HX2.out)
  clear hm3 hr3 t0 t1 t2 t3 t4 t5 t6 t7 t8 t9 hp hq hf ra x0 x1 x2 x3 xl
  obtain ⟨hp, hq, _⟩ := HM3.out.lt
  obtain ⟨x0, x1, x2, x3, xl⟩ := ins_cells (x := ⟨4, ja, jb, c⟩) HX3.out
  dsimp only at x0 x1 x2 x3
  have ra := HM3.out.reg i HA.out.2.1 ja HA.out.1
  have hf := (HM3.out.sc i HA.out.2.1).2.2.2.2
  dsimp only at ra
  go_wp2_with fail
  refine region_past (by kernel_rfl) (by kernel_rfl) ?_; (repeat (go_big_quiet_step (fail))); refine wpQuiet_nil ?_; rintro _ ⟨px, rfl⟩
  go_wp2_with fail
  (try rw [Exit.noGoto_ret])
  go_ret2
  exact ⟨rfl, HM3.out.ext px.below, HR3.out.trans (Rg.of_below px.below)⟩
set_option maxRecDepth 100000 in
set_option maxHeartbeats 2000000 in
theorem aacc_swap {w : World} {lo hi p qs qo pm lm hm cs co : Nat} {P : Nat → Value} {M : Ma} (h : Mk w lo hi p qs qo pm lm hm cs co P M) (hL : Lims w) (i : Nat) (hi' : i < M.nc) (ja jb k : Nat) (c : Int) (ha : ja < 4) (hb : jb < 4) (hk : k < 2 * M.m.n) (hx : (M.se i).r jb = k) (hm' : M.may (M.se i).wo k = true) :
    Calls Tryd.prog 57 #[.pointer (some ⟨p, 0, none⟩), .pointer (some ⟨qs, i * 8, none⟩), .agg #[.int .i64 5, .int .i64 ja, .int .i64 jb, .int .i64 c]] w fun e w' => e = .returned (.tuple #[.int .i64 (M.m.wd k), .int .i64 0]) ∧ Mk w' lo hi p qs qo pm lm hm cs co P (Ma.setReg { M with m := M.m.setWd k ((M.se i).r ja) } i ja (M.m.wd k)) ∧ Rg lo hi w w' := by
  have h1 := h.reg i hi' jb hb
  obtain ⟨_, c5, _, _, _⟩ := h.sc i hi'
  obtain ⟨hp, hq, _⟩ := h.lt
  have hi4 : (i : Int) ≤ 4 := by have := (Ma.n_of h.mm.ok).2.2.1; omega
  have hj4 : (jb : Int) < 4 := by omega
  rw [hx] at h1
  have ra := h.reg i hi' ja ha
  have hf := (h.sc i hi').2.2.2.2
  have hja4 : (ja : Int) < 4 := by omega
  have HC := fun (W : World) (hb : Below w.heap.size w W) => amay_any (h.ext hb) (hL.ext hb) (M.se i).wo k
  rw [hm'] at HC
  have HC := Lib.hid HC
  have HL := Lib.hid hL
  have H := Lib.hid h
  have HA := Lib.hid (And.intro ha (And.intro hi' hk))
  have HG := Lib.hid (fun (W : World) (hb : Below w.heap.size w W) => bget_ok (h.ext hb).mm (hL.ext hb) k hk)
  clear h hL hm' hi' hb ha hx hk
  generalize hwo : (M.se i).wo = wo at *
  clear hwo
  go_enter Tryd.func57, Tryd.ntmps57
  go_wp2_with fail
  go_step3
  go_wp2_with fail
  go_region
  obtain ⟨w0, hw0⟩ : ∃ W, W = (w.alloc (.cells #[.int .i64 5, .int .i64 ja, .int .i64 jb, .int .i64 c] 36)).drew := ⟨_, rfl⟩
  have hb0 : Below w.heap.size w w0 := by rw [hw0]; exact ext_drew (ext_alloc _ (Below.refl _ _))
  have hx0 : w0.heap[w.heap.size]? = some (.cells #[.int .i64 5, .int .i64 ja, .int .i64 jb, .int .i64 c] 36 (0, 0)) := by rw [hw0]; exact ins_new w ⟨5, ja, jb, c⟩
  rw [← hw0]
  have HB0 := Lib.hid hb0
  have HX0 := Lib.hid hx0
  obtain ⟨x0, x1, x2, x3, xl⟩ := ins_cells (x := ⟨5, ja, jb, c⟩) hx0
  dsimp only at x0 x1 x2 x3
  have c5' := (hb0.cell (p := ⟨qs, i * 8 + 5, none⟩) hq).trans c5
  have hq' := Nat.lt_of_lt_of_le hq hb0.size
  clear hw0 hb0 hx0 h1 c5
  go_wp2_with fail
  go_step3
  go_wp2_with fail
  refine (HC.out _ HB0.out).mono ?_
  rintro e w1 ⟨rfl, hb⟩
  have HB1 := Lib.hid (ext_trans HB0.out hb)
  have HX1 := Lib.hid ((hb.block _ (lt_of HX0.out)).trans HX0.out)
  clear hb x0 x1 x2 x3 xl c5' hq' hp hq
  obtain ⟨t0, t1, t2, t3, t4, t5, t6, t7, t8, t9⟩ := ten_at (H.out.ext HB1.out).top
  obtain ⟨hp, hq, _⟩ := (H.out.ext HB1.out).lt
  go_wp2_with fail
  refine (HG.out w1 HB1.out).mono ?_
  rintro e w2 ⟨rfl, hb⟩
  have HB2 := Lib.hid (ext_trans HB1.out hb)
  have HX2 := Lib.hid ((hb.block _ (lt_of HX1.out)).trans HX1.out)
  have HM2 := Lib.hid (H.out.ext HB2.out)
  clear hb t0 t1 t2 t3 t4 t5 t6 t7 t8 t9 hp hq hf ra
  obtain ⟨t0, t1, t2, t3, t4, t5, t6, t7, t8, t9⟩ := ten_at HM2.out.top
  obtain ⟨hp, hq, _⟩ := HM2.out.lt
  obtain ⟨x0, x1, x2, x3, xl⟩ := ins_cells (x := ⟨5, ja, jb, c⟩) HX2.out
  dsimp only at x0 x1 x2 x3
  have ra := HM2.out.reg i HA.out.2.1 ja HA.out.1
  have hf := (HM2.out.sc i HA.out.2.1).2.2.2.2
  have hne : qs ≠ w.heap.size := by have := H.out.lt.2.1; omega
  go_wp2_with fail
  have hL2 := Lib.hid (HL.out.ext HB2.out)
  have HSW := Lib.hid (bset_ok (HM2.out.ext (ext_drew (Below.refl _ _))).mm (hL2.out.ext (ext_drew (Below.refl _ _))) k HA.out.2.2 ((M.se i).r ja))
  go_still_tail 13, (by kernel_rfl)
  change wpList _ _ _ _ _ w2.drew
  go_wp2_with fail
  refine HSW.out.mono ?_
  rintro e w3 ⟨rfl, hm3, hr3⟩
  have HM3 := Lib.hid ((HM2.out.ext (ext_drew (Below.refl _ _))).mem hr3 hm3 rfl)
  have HR3 := Lib.hid (((Rg.of_below (lo := lo) (hi := hi) HB2.out).trans (Rg.of_below (ext_drew (Below.refl _ _)))).trans (hr3.mono HM2.out.bd.2.2.2.2.2.2.1 HM2.out.bd.2.2.2.2.2.2.2))
  have HX3 := Lib.hid ((hr3.block w.heap.size xl (.inr (by have := HM2.out.bd.2.2.2.2.2.2.2; have := H.out.sz; omega))).trans HX2.out)
  clear hm3 hr3 t0 t1 t2 t3 t4 t5 t6 t7 t8 t9 hp hq hf ra x0 x1 x2 x3 xl
  obtain ⟨hp, hq, _⟩ := HM3.out.lt
  obtain ⟨x0, x1, x2, x3, xl⟩ := ins_cells (x := ⟨5, ja, jb, c⟩) HX3.out
  dsimp only at x0 x1 x2 x3
  have ra := HM3.out.reg i HA.out.2.1 ja HA.out.1
  have hf := (HM3.out.sc i HA.out.2.1).2.2.2.2
  dsimp only at ra
  go_wp2_with fail
  go_region
  go_wp2_with fail
  (try rw [Exit.noGoto_ret])
  go_ret2
  exact ⟨rfl, (HM3.out.reg_set i ja HA.out.1 (M.m.wd k)).ext (ext_drew (Below.refl _ _)), (HR3.out.trans (Rg.set w3 _ HM3.out.bd.2.2.1 HM3.out.bd.2.2.2.1)).trans (Rg.of_below (ext_drew (Below.refl _ _)))⟩

end Go.Proofs.YtkobeajbiendlaaDoor
namespace Go.Proofs.YtkobeajbiendlaaDoor
open Go.RowKit

theorem zeros_scrub {m : Mm} (h : m.c.ok) (g : Nat) (hg : (g : Int) < m.c.gr) : m.zeros (lnN (lns m.c g)) = m.scrub g := by
  have hh : has m.c (g : Int) := ⟨h, by omega, hg⟩
  have e : lns m.c (g : Int) = [⟨(g : Int) * 2, hh, .inl rfl⟩, ⟨(g : Int) * 2 + 1, hh, .inr rfl⟩] := by unfold lns; rw [dif_pos hh]
  have e2 : lnN (lns m.c (g : Int)) = [((g : Int) * 2).toNat, ((g : Int) * 2 + 1).toNat] := by rw [e]; rfl
  rw [e2, show ((g : Int) * 2).toNat = 2 * g by omega, show ((g : Int) * 2 + 1).toNat = 2 * g + 1 by omega]
  rfl
def Ma.scr (M : Ma) (g : Nat) (v : Int) : Ma := { M.setOw g v with m := M.m.scrub g }
theorem call_out {M : Ma} {call wo gr tw : Int} {busy : Bool} (h : gr < 0 ∨ (M.ng : Int) ≤ gr) : M.call call wo gr tw busy = (10, M) := by unfold Ma.call; rw [if_pos h]
theorem call_busy {M : Ma} {call wo gr tw : Int} (h : ¬ (gr < 0 ∨ (M.ng : Int) ≤ gr)) : M.call call wo gr tw true = (17, M) := by unfold Ma.call; rw [if_neg h]; rfl
theorem call_bad {M : Ma} {call wo gr tw : Int} (h : ¬ (gr < 0 ∨ (M.ng : Int) ≤ gr)) (hj : (judge call wo (M.ow gr.toNat) tw).2.2 ≠ 0) : M.call call wo gr tw false = ((judge call wo (M.ow gr.toNat) tw).2.2, M) := by
  unfold Ma.call
  rw [if_neg h]
  simp only [Bool.false_eq_true, if_false]
  rw [if_pos hj]
theorem call_good {M : Ma} {call wo gr tw : Int} (h : ¬ (gr < 0 ∨ (M.ng : Int) ≤ gr)) (hj : (judge call wo (M.ow gr.toNat) tw).2.2 = 0) :
    M.call call wo gr tw false = (0, if (judge call wo (M.ow gr.toNat) tw).2.1 then M.scr gr.toNat (judge call wo (M.ow gr.toNat) tw).1 else M.setOw gr.toNat (judge call wo (M.ow gr.toNat) tw).1) := by
  unfold Ma.call
  rw [if_neg h]
  simp only [Bool.false_eq_true, if_false]
  rw [if_neg (fun e => e hj)]
  rfl

section
variable {w : World} {lo hi p qs qo pm lm hm cs co : Nat} {P : Nat → Value} {M : Ma}
set_option maxHeartbeats 800000 in
theorem acall_out (h : Mk w lo hi p qs qo pm lm hm cs co P M) (call wo gr tw : Int) (busy : Bool) (hg : gr < 0 ∨ (M.ng : Int) ≤ gr) :
    Calls Tryd.prog 58 #[.pointer (some ⟨p, 0, none⟩), .int .i64 call, .int .i64 wo, .int .i64 gr, .int .i64 tw, .bool busy] w fun e w' => e = .returned (.int .i64 10) ∧ Below w.heap.size w w' := by
  obtain ⟨t0, t1, t2, t3, t4, t5, t6, t7, t8, t9⟩ := ten_at h.top
  obtain ⟨hp, _, _⟩ := h.lt
  have hn := Ma.n_of h.mm.ok
  have hI := inB_no (l := 0) (m := (M.ng : Int) - 1) (x := gr) (by omega)
  have hn1 : 1 ≤ (M.ng : Int) := by omega
  have hn2 : (M.ng : Int) ≤ 16 := by omega
  clear h hn hg
  go_enter Tryd.func58, Tryd.ntmps58
  go_wp2_with fail
  refine (within_new _ _ _ _ _ _ rfl).mono ?_
  rintro e w1 ⟨rfl, hw⟩
  rw [hw]
  clear hw
  go_wp2_with fail
  go_ret
  exact ⟨rfl, (by repeat (with_reducible first | exact Below.refl _ _ | assumption | (refine ext_next (by assumption) ?_) | apply ext_alloc | apply ext_past | apply ext_drew | apply ext_drewN))⟩
set_option maxHeartbeats 800000 in
theorem acall_busy (h : Mk w lo hi p qs qo pm lm hm cs co P M) (call wo tw : Int) (g : Nat) (hg : g < M.ng) :
    Calls Tryd.prog 58 #[.pointer (some ⟨p, 0, none⟩), .int .i64 call, .int .i64 wo, .int .i64 g, .int .i64 tw, .bool true] w fun e w' => e = .returned (.int .i64 17) ∧ Below w.heap.size w w' := by
  obtain ⟨t0, t1, t2, t3, t4, t5, t6, t7, t8, t9⟩ := ten_at h.top
  obtain ⟨hp, _, _⟩ := h.lt
  have hn := Ma.n_of h.mm.ok
  have hI := inB_yes (l := 0) (m := (M.ng : Int) - 1) (x := g) (by omega)
  have hn1 : 1 ≤ (M.ng : Int) := by omega
  have hn2 : (M.ng : Int) ≤ 16 := by omega
  clear h hn hg
  go_enter Tryd.func58, Tryd.ntmps58
  go_wp2_with fail
  refine (within_new _ _ _ _ _ _ rfl).mono ?_
  rintro e w1 ⟨rfl, hw⟩
  rw [hw]
  clear hw
  go_wp2_with fail
  go_ret
  exact ⟨rfl, (by repeat (with_reducible first | exact Below.refl _ _ | assumption | (refine ext_next (by assumption) ?_) | apply ext_alloc | apply ext_past | apply ext_drew | apply ext_drewN))⟩
set_option maxRecDepth 100000 in
set_option maxHeartbeats 800000 in
theorem acall_bad (h : Mk w lo hi p qs qo pm lm hm cs co P M) (_hL : Lims w) (call wo tw : Int) (g : Nat) (hg : g < M.ng) (j1 j3 : Int) (j2 : Bool) (hj : judge call wo (M.ow g) tw = (j1, j2, j3)) (h3 : j3 ≠ 0) :
    Calls Tryd.prog 58 #[.pointer (some ⟨p, 0, none⟩), .int .i64 call, .int .i64 wo, .int .i64 g, .int .i64 tw, .bool false] w fun e w' => e = .returned (.int .i64 j3) ∧ Below w.heap.size w w' := by
  obtain ⟨t0, t1, t2, t3, t4, t5, t6, t7, t8, t9⟩ := ten_at h.top
  obtain ⟨hp, _, hq⟩ := h.lt
  have hn := Ma.n_of h.mm.ok
  have hI := inB_yes (l := 0) (m := (M.ng : Int) - 1) (x := g) (by omega)
  have hn1 : 1 ≤ (M.ng : Int) := by omega
  have hn2 : (M.ng : Int) ≤ 16 := by omega
  have hgi : (g : Int) < (M.ng : Int) := by omega
  obtain ⟨y0, yf⟩ := h.own g hg
  have HJ := fun W => judge_any call wo (M.ow g) tw W
  rw [hj] at HJ
  have HJ := Lib.hid HJ
  have H := Lib.hid h
  have e3 : (j3 != 0) = true := by simpa using h3
  clear h3
  have HG := Lib.hid hg
  clear h hn hg hj
  go_enter Tryd.func58, Tryd.ntmps58
  go_wp2_with fail
  refine (within_new _ _ _ _ _ _ rfl).mono ?_
  rintro e w1 ⟨rfl, hw⟩
  rw [hw]
  clear hw
  obtain ⟨w0, hw0⟩ : ∃ W, W = w.alloc (.cells #[.int .i64 g] 3) := ⟨_, rfl⟩
  have hb0 : Below w.heap.size w w0 := by rw [hw0]; exact ext_alloc _ (Below.refl _ _)
  rw [← hw0]
  have HB0 := Lib.hid hb0
  clear hw0 hb0 t0 t1 t2 t3 t4 t5 t6 t7 t8 t9 hp hq y0 yf
  obtain ⟨t0, t1, t2, t3, t4, t5, t6, t7, t8, t9⟩ := ten_at (H.out.ext HB0.out).top
  obtain ⟨hp, _, hq⟩ := (H.out.ext HB0.out).lt
  obtain ⟨y0, yf⟩ := (H.out.ext HB0.out).own g HG.out
  go_wp2_with fail
  refine (HJ.out _).mono ?_
  rintro e w2 ⟨rfl, hb⟩
  have HB2 := Lib.hid (ext_trans HB0.out hb)
  have HM2 := Lib.hid (H.out.ext HB2.out)
  clear hb t0 t1 t2 t3 t4 t5 t6 t7 t8 t9 hp hq y0 yf
  obtain ⟨t0, t1, t2, t3, t4, t5, t6, t7, t8, t9⟩ := ten_at HM2.out.top
  obtain ⟨hp, _, hq⟩ := HM2.out.lt
  obtain ⟨y0, yf⟩ := HM2.out.own g HG.out
  have hpq := HM2.out.ne.2.1
  go_wp2_with fail
  go_ret
  exact ⟨rfl, HB2.out⟩
set_option maxRecDepth 100000 in
set_option maxHeartbeats 800000 in
theorem acall_keep (h : Mk w lo hi p qs qo pm lm hm cs co P M) (_hL : Lims w) (call wo tw : Int) (g : Nat) (hg : g < M.ng) (j1  : Int)  (hj : judge call wo (M.ow g) tw = (j1, false, 0))  :
    Calls Tryd.prog 58 #[.pointer (some ⟨p, 0, none⟩), .int .i64 call, .int .i64 wo, .int .i64 g, .int .i64 tw, .bool false] w fun e w' => e = .returned (.int .i64 0) ∧ Mk w' lo hi p qs qo pm lm hm cs co P (M.setOw g j1) ∧ Rg lo hi w w' := by
  obtain ⟨t0, t1, t2, t3, t4, t5, t6, t7, t8, t9⟩ := ten_at h.top
  obtain ⟨hp, _, hq⟩ := h.lt
  have hn := Ma.n_of h.mm.ok
  have hI := inB_yes (l := 0) (m := (M.ng : Int) - 1) (x := g) (by omega)
  have hn1 : 1 ≤ (M.ng : Int) := by omega
  have hn2 : (M.ng : Int) ≤ 16 := by omega
  have hgi : (g : Int) < (M.ng : Int) := by omega
  obtain ⟨y0, yf⟩ := h.own g hg
  have HJ := fun W => judge_any call wo (M.ow g) tw W
  rw [hj] at HJ
  have HJ := Lib.hid HJ
  have H := Lib.hid h

  have HG := Lib.hid hg
  clear h hn hg hj
  go_enter Tryd.func58, Tryd.ntmps58
  go_wp2_with fail
  refine (within_new _ _ _ _ _ _ rfl).mono ?_
  rintro e w1 ⟨rfl, hw⟩
  rw [hw]
  clear hw
  obtain ⟨w0, hw0⟩ : ∃ W, W = w.alloc (.cells #[.int .i64 g] 3) := ⟨_, rfl⟩
  have hb0 : Below w.heap.size w w0 := by rw [hw0]; exact ext_alloc _ (Below.refl _ _)
  rw [← hw0]
  have HB0 := Lib.hid hb0
  clear hw0 hb0 t0 t1 t2 t3 t4 t5 t6 t7 t8 t9 hp hq y0 yf
  obtain ⟨t0, t1, t2, t3, t4, t5, t6, t7, t8, t9⟩ := ten_at (H.out.ext HB0.out).top
  obtain ⟨hp, _, hq⟩ := (H.out.ext HB0.out).lt
  obtain ⟨y0, yf⟩ := (H.out.ext HB0.out).own g HG.out
  go_wp2_with fail
  refine (HJ.out _).mono ?_
  rintro e w2 ⟨rfl, hb⟩
  have HB2 := Lib.hid (ext_trans HB0.out hb)
  have HM2 := Lib.hid (H.out.ext HB2.out)
  clear hb t0 t1 t2 t3 t4 t5 t6 t7 t8 t9 hp hq y0 yf
  obtain ⟨t0, t1, t2, t3, t4, t5, t6, t7, t8, t9⟩ := ten_at HM2.out.top
  obtain ⟨hp, _, hq⟩ := HM2.out.lt
  obtain ⟨y0, yf⟩ := HM2.out.own g HG.out
  have hpq := HM2.out.ne.2.1
  go_wp2_with fail
  go_ret
  exact ⟨rfl, HM2.out.ow_set g j1, (Rg.of_below HB2.out).trans (Rg.set _ _ HM2.out.bd.2.2.2.2.1 HM2.out.bd.2.2.2.2.2.1)⟩
set_option maxRecDepth 100000 in
set_option maxHeartbeats 800000 in
theorem acall_scrub (h : Mk w lo hi p qs qo pm lm hm cs co P M) (hL : Lims w) (call wo tw : Int) (g : Nat) (hg : g < M.ng) (j1  : Int)  (hj : judge call wo (M.ow g) tw = (j1, true, 0))  :
    Calls Tryd.prog 58 #[.pointer (some ⟨p, 0, none⟩), .int .i64 call, .int .i64 wo, .int .i64 g, .int .i64 tw, .bool false] w fun e w' => e = .returned (.int .i64 0) ∧ Mk w' lo hi p qs qo pm lm hm cs co P (M.scr g j1) ∧ Rg lo hi w w' := by
  obtain ⟨t0, t1, t2, t3, t4, t5, t6, t7, t8, t9⟩ := ten_at h.top
  obtain ⟨hp, _, hq⟩ := h.lt
  have hn := Ma.n_of h.mm.ok
  have hI := inB_yes (l := 0) (m := (M.ng : Int) - 1) (x := g) (by omega)
  have hn1 : 1 ≤ (M.ng : Int) := by omega
  have hn2 : (M.ng : Int) ≤ 16 := by omega
  have hgi : (g : Int) < (M.ng : Int) := by omega
  obtain ⟨y0, yf⟩ := h.own g hg
  have HJ := fun W => judge_any call wo (M.ow g) tw W
  rw [hj] at HJ
  have HJ := Lib.hid HJ
  have H := Lib.hid h
  have HL := Lib.hid hL
  have HGR := Lib.hid (And.intro (show (0 : Int) ≤ g by omega) (show (g : Int) < M.m.c.gr by omega))
  clear hL
  have HG := Lib.hid hg
  clear h hn hg hj
  go_enter Tryd.func58, Tryd.ntmps58
  go_wp2_with fail
  refine (within_new _ _ _ _ _ _ rfl).mono ?_
  rintro e w1 ⟨rfl, hw⟩
  rw [hw]
  clear hw
  obtain ⟨w0, hw0⟩ : ∃ W, W = w.alloc (.cells #[.int .i64 g] 3) := ⟨_, rfl⟩
  have hb0 : Below w.heap.size w w0 := by rw [hw0]; exact ext_alloc _ (Below.refl _ _)
  rw [← hw0]
  have HB0 := Lib.hid hb0
  clear hw0 hb0 t0 t1 t2 t3 t4 t5 t6 t7 t8 t9 hp hq y0 yf
  obtain ⟨t0, t1, t2, t3, t4, t5, t6, t7, t8, t9⟩ := ten_at (H.out.ext HB0.out).top
  obtain ⟨hp, _, hq⟩ := (H.out.ext HB0.out).lt
  obtain ⟨y0, yf⟩ := (H.out.ext HB0.out).own g HG.out
  go_wp2_with fail
  refine (HJ.out _).mono ?_
  rintro e w2 ⟨rfl, hb⟩
  have HB2 := Lib.hid (ext_trans HB0.out hb)
  have HM2 := Lib.hid (H.out.ext HB2.out)
  clear hb t0 t1 t2 t3 t4 t5 t6 t7 t8 t9 hp hq y0 yf
  obtain ⟨t0, t1, t2, t3, t4, t5, t6, t7, t8, t9⟩ := ten_at HM2.out.top
  obtain ⟨hp, _, hq⟩ := HM2.out.lt
  obtain ⟨y0, yf⟩ := HM2.out.own g HG.out
  have hpq := HM2.out.ne.2.1
  go_wp2_with fail
  have HS := Lib.hid (bscrub_ok (HM2.out.ow_set g j1).mm ((HL.out.ext HB2.out).keepR (Rg.set w2 _ HM2.out.bd.2.2.2.2.1 HM2.out.bd.2.2.2.2.2.1) HM2.out.gl) g HGR.out.1 HGR.out.2)
  refine HS.out.mono ?_
  rintro e w3 ⟨rfl, hm3, hr3⟩
  have hm3 : Bm w3 lm hm pm (M.m.zeros (lnN (lns M.m.c (g : Int)))) := hm3
  rw [zeros_scrub H.out.mm.ok g HGR.out.2] at hm3
  have HM3 := Lib.hid ((HM2.out.ow_set g j1).mem hr3 hm3 rfl)
  have HR3 := Lib.hid (((Rg.of_below (lo := lo) (hi := hi) HB2.out).trans (Rg.set w2 _ HM2.out.bd.2.2.2.2.1 HM2.out.bd.2.2.2.2.2.1)).trans (hr3.mono HM2.out.bd.2.2.2.2.2.2.1 HM2.out.bd.2.2.2.2.2.2.2))
  clear hm3 hr3
  go_wp2_with fail
  go_ret
  exact ⟨rfl, HM3.out, HR3.out⟩

/-- Whatever the call. -/
theorem acall_any (h : Mk w lo hi p qs qo pm lm hm cs co P M) (hL : Lims w) (call wo gr tw : Int) (busy : Bool) :
    Calls Tryd.prog 58 #[.pointer (some ⟨p, 0, none⟩), .int .i64 call, .int .i64 wo, .int .i64 gr, .int .i64 tw, .bool busy] w fun e w' => e = .returned (.int .i64 (M.call call wo gr tw busy).1) ∧ Mk w' lo hi p qs qo pm lm hm cs co P (M.call call wo gr tw busy).2 ∧ Rg lo hi w w' := by
  have below : ∀ {r : Int} {e : Ending} {w' : World}, (e = .returned (.int .i64 r) ∧ Below w.heap.size w w') → e = .returned (.int .i64 r) ∧ Mk w' lo hi p qs qo pm lm hm cs co P M ∧ Rg lo hi w w' := fun ⟨h1, h2⟩ => ⟨h1, h.ext h2, Rg.of_below h2⟩
  by_cases hg : gr < 0 ∨ (M.ng : Int) ≤ gr
  · rw [call_out hg]
    exact (acall_out h call wo gr tw busy hg).mono fun _ _ hh => below hh
  · obtain ⟨g, rfl⟩ : ∃ g : Nat, gr = g := ⟨gr.toNat, by omega⟩
    cases busy with
    | true =>
      rw [call_busy hg]
      exact (acall_busy h call wo tw g (by omega)).mono fun _ _ hh => below hh
    | false =>
      obtain ⟨j, hj⟩ : ∃ j, judge call wo (M.ow g) tw = j := ⟨_, rfl⟩
      obtain ⟨j1, j2, j3⟩ := j
      by_cases h3 : j3 = 0
      · subst h3
        rw [call_good hg (by rw [Int.toNat_natCast, hj]), Int.toNat_natCast, hj]
        cases j2 with
        | true => exact acall_scrub h hL call wo tw g (by omega) j1 hj
        | false => exact acall_keep h hL call wo tw g (by omega) j1 hj
      · rw [call_bad hg (by rw [Int.toNat_natCast, hj]; exact h3), Int.toNat_natCast, hj]
        exact (acall_bad h hL call wo tw g (by omega) j1 j3 j2 hj h3).mono fun _ _ hh => below hh
end

end Go.Proofs.YtkobeajbiendlaaDoor
namespace Go.Proofs.YtkobeajbiendlaaDoor
open Go.RowKit

theorem Mk.rgm {w w' : World} {lo hi p qs qo pm lm hm cs co : Nat} {P : Nat → Value} {M : Ma} (h : Mk w lo hi p qs qo pm lm hm cs co P M) {b : Nat} (hr : Rg b (b + 1) w w') (hb : hi ≤ b) : Mk w' lo hi p qs qo pm lm hm cs co P M :=
  h.keep (fun k h1 h2 => hr.block k (by have := h.sz; omega) (.inl (by omega))) hr.size
theorem set7_rg (w : World) (b : Nat) (x0 x1 x2 x3 x4 x5 x6 : Value) : Rg b (b + 1) w (set7 w b x0 x1 x2 x3 x4 x5 x6) := by
  have h := set7_grown w b x0 x1 x2 x3 x4 x5 x6
  exact ⟨h.os, h.tape, h.output, h.size, fun k hk hn => h.block k hk (fun e => by have := Option.some.inj e; omega)⟩
theorem Rg.bx {lo hi b : Nat} {w a c : World} (h : Rg lo hi w a) (hr : Rg b (b + 1) a c) (hb : w.heap.size ≤ b) : Rg lo hi w c :=
  ⟨hr.os.trans h.os, hr.tape.trans h.tape, hr.output.trans h.output, Nat.le_trans h.size hr.size, fun k hk hn => (hr.block k (Nat.lt_of_lt_of_le hk h.size) (.inl (by omega))).trans (h.block k hk hn)⟩

theorem cellO (W : World) {b q : Nat} (o k : Nat) (v : Value) (h : q ≠ b) : (W.setCell ⟨b, o, none⟩ v).cell? ⟨q, k, none⟩ = W.cell? ⟨q, k, none⟩ := World.cell?_of_block (a := ⟨q, k, none⟩) (Below.heap_setCell _ _ _ _ h)
theorem call_same {M M1 : Ma} {call wo gr tw cd : Int} {busy : Bool} (h : M.call call wo gr tw busy = (cd, M1)) : M1.se = M.se ∧ M1.m.c = M.m.c := by
  unfold Ma.call at h
  split at h
  · cases h; exact ⟨rfl, rfl⟩
  · split at h
    · cases h; exact ⟨rfl, rfl⟩
    · dsimp only at h
      split at h
      · cases h; exact ⟨rfl, rfl⟩
      · obtain ⟨_, rfl⟩ := Prod.mk.inj h
        split <;> exact ⟨rfl, rfl⟩
theorem ps_setReg (M : Ma) (i k : Nat) (v : Int) : ((M.setReg i k v).se i).ps = (M.se i).ps := by simp [Ma.setReg]
theorem ps_setWo (M : Ma) (i : Nat) (v : Int) : ((M.setWo i v).se i).ps = (M.se i).ps := by simp [Ma.setWo]
/-- A step under way: the machine, the event, the instruction, the result. -/
structure Sp (w W : World) (lo hi p qs qo pm lm hm cs co : Nat) (P : Nat → Value) (bI bE : Nat) (M : Ma) (x : Ins) (v : Ev) : Prop where
  ma : Mk W lo hi p qs qo pm lm hm cs co P M
  ev : W.heap[bE]? = some (.cells #[.int .i64 v.co, .int .i64 v.a, .int .i64 v.op, .int .i64 v.wo, .int .i64 v.wd, .int .i64 v.va, .int .i64 v.cd] 42 (0, 0))
  rs : W.heap[w.heap.size]? = some (.cells #[.int .i64 0, .int .i64 0, .int .i64 0, .int .i64 0, .int .i64 0, .int .i64 0, .int .i64 0] 42 (0, 0))
  ins : W.heap[bI]? = some (.cells #[.int .i64 x.op, .int .i64 x.a, .int .i64 x.b, .int .i64 x.c] 36 (0, 0))
  rg : Rg lo hi w W
  sz : hi ≤ w.heap.size ∧ w.heap.size < bI ∧ bI < bE
section
variable {w W W' : World} {lo hi p qs qo pm lm hm cs co : Nat} {P : Nat → Value} {bI bE : Nat} {M M' : Ma} {x : Ins} {v v' : Ev}
theorem Sp.rgm (h : Sp w W lo hi p qs qo pm lm hm cs co P bI bE M x v) (hr : Rg lo hi W W') (hm' : Mk W' lo hi p qs qo pm lm hm cs co P M') : Sp w W' lo hi p qs qo pm lm hm cs co P bI bE M' x v := by
  obtain ⟨s1, s2, s3⟩ := h.sz
  exact ⟨hm', (hr.block _ (lt_of h.ev) (.inr (by omega))).trans h.ev, (hr.block _ (lt_of h.rs) (.inr (by omega))).trans h.rs, (hr.block _ (lt_of h.ins) (.inr (by omega))).trans h.ins, h.rg.trans hr, h.sz⟩
theorem Sp.ext (h : Sp w W lo hi p qs qo pm lm hm cs co P bI bE M x v) (hb : Below W.heap.size W W') : Sp w W' lo hi p qs qo pm lm hm cs co P bI bE M x v := h.rgm (Rg.of_below hb) (h.ma.ext hb)
theorem Sp.reg (h : Sp w W lo hi p qs qo pm lm hm cs co P bI bE M x v) (i k : Nat) (hk : k < 4) (z : Int) : Sp w (W.setCell ⟨qs, i * 8 + k, none⟩ (.int .i64 z)) lo hi p qs qo pm lm hm cs co P bI bE (M.setReg i k z) x v :=
  h.rgm (Rg.set W _ h.ma.bd.2.2.1 h.ma.bd.2.2.2.1) (h.ma.reg_set i k hk z)
theorem Sp.wo (h : Sp w W lo hi p qs qo pm lm hm cs co P bI bE M x v) (i : Nat) (z : Int) : Sp w (W.setCell ⟨qs, i * 8 + 5, none⟩ (.int .i64 z)) lo hi p qs qo pm lm hm cs co P bI bE (M.setWo i z) x v :=
  h.rgm (Rg.set W _ h.ma.bd.2.2.1 h.ma.bd.2.2.2.1) (h.ma.wo_set i z)
theorem Sp.evs (h : Sp w W lo hi p qs qo pm lm hm cs co P bI bE M x v) (o : Nat) (z : Value) (he : (W.setCell ⟨bE, o, none⟩ z).heap[bE]? = some (.cells #[.int .i64 v'.co, .int .i64 v'.a, .int .i64 v'.op, .int .i64 v'.wo, .int .i64 v'.wd, .int .i64 v'.va, .int .i64 v'.cd] 42 (0, 0))) :
    Sp w (W.setCell ⟨bE, o, none⟩ z) lo hi p qs qo pm lm hm cs co P bI bE M x v' := by
  obtain ⟨s1, s2, s3⟩ := h.sz
  have hr : Rg bE (bE + 1) W (W.setCell ⟨bE, o, none⟩ z) := Rg.set W _ (Nat.le_refl _) (by omega)
  exact ⟨h.ma.rgm hr (by omega), he, (Below.heap_setCell _ _ _ _ (by show w.heap.size ≠ bE; omega)).trans h.rs, (Below.heap_setCell _ _ _ _ (by show bI ≠ bE; omega)).trans h.ins, h.rg.bx hr (by omega), h.sz⟩
theorem Sp.wd (h : Sp w W lo hi p qs qo pm lm hm cs co P bI bE M x v) (z : Int) : Sp w (W.setCell ⟨bE, 4, none⟩ (.int .i64 z)) lo hi p qs qo pm lm hm cs co P bI bE M x { v with wd := z } :=
  h.evs 4 _ (by have := Joins.block_setCell (i := 4) h.ev (.int .i64 z); simpa using this)
theorem Sp.va (h : Sp w W lo hi p qs qo pm lm hm cs co P bI bE M x v) (z : Int) : Sp w (W.setCell ⟨bE, 5, none⟩ (.int .i64 z)) lo hi p qs qo pm lm hm cs co P bI bE M x { v with va := z } :=
  h.evs 5 _ (by have := Joins.block_setCell (i := 5) h.ev (.int .i64 z); simpa using this)
theorem Sp.cd (h : Sp w W lo hi p qs qo pm lm hm cs co P bI bE M x v) (z : Int) : Sp w (W.setCell ⟨bE, 6, none⟩ (.int .i64 z)) lo hi p qs qo pm lm hm cs co P bI bE M x { v with cd := z } :=
  h.evs 6 _ (by have := Joins.block_setCell (i := 6) h.ev (.int .i64 z); simpa using this)
end

end Go.Proofs.YtkobeajbiendlaaDoor
namespace Go.Proofs.YtkobeajbiendlaaDoor
open Go.RowKit

theorem aowner_nil (x : Int) (w : World) : Calls Tryd.prog 40 #[.pointer none, .int .i64 x] w fun e w' => e = .returned (.tuple #[.int .i64 0, .int .i64 2]) ∧ w' = w := by
  go_enter Tryd.func40, Tryd.ntmps40
  go_wp2
  go_ret2
  exact ⟨rfl, rfl⟩
theorem aget_nil (x : Int) (w : World) : Calls Tryd.prog 41 #[.pointer none, .int .i64 x] w fun e w' => e = .returned (.tuple #[.int .i64 0, .int .i64 2]) ∧ w' = w := by
  go_enter Tryd.func41, Tryd.ntmps41
  go_wp2
  go_ret2
  exact ⟨rfl, rfl⟩
theorem acopy_nil (w : World) : Calls Tryd.prog 39 #[.pointer none] w fun e w' => e = .returned (.pointer none) ∧ w' = w := by
  go_enter Tryd.func39, Tryd.ntmps39
  go_wp2
  go_ret
  exact ⟨rfl, rfl⟩
section
variable {w : World} {lo hi p qs qo pm lm hm cs co : Nat} {P : Nat → Value} {M : Ma}
set_option maxHeartbeats 1000000 in
theorem aowner_no (h : Mk w lo hi p qs qo pm lm hm cs co P M) (x : Int) (hx : x < 0 ∨ (M.ng : Int) ≤ x) :
    Calls Tryd.prog 40 #[.pointer (some ⟨p, 0, none⟩), .int .i64 x] w fun e w' => e = .returned (.tuple #[.int .i64 0, .int .i64 10]) ∧ Below w.heap.size w w' := by
  obtain ⟨t0, t1, t2, t3, t4, t5, t6, t7, t8, t9⟩ := ten_at h.top
  obtain ⟨hp, _, _⟩ := h.lt
  have hn := Ma.n_of h.mm.ok
  have hI := inB_no (l := 0) (m := (M.ng : Int) - 1) (x := x) (by omega)
  have hn1 : 1 ≤ (M.ng : Int) := by omega
  have hn2 : (M.ng : Int) ≤ 16 := by omega
  clear h hn hx
  go_enter Tryd.func40, Tryd.ntmps40
  go_wp2_with fail
  refine (within_new _ _ _ _ _ _ rfl).mono ?_
  rintro e w1 ⟨rfl, hw⟩
  rw [hw]
  clear hw
  go_wp2_with fail
  go_ret2
  exact ⟨rfl, (by repeat (with_reducible first | exact Below.refl _ _ | assumption | (refine ext_next (by assumption) ?_) | apply ext_alloc | apply ext_past | apply ext_drew | apply ext_drewN))⟩
set_option maxHeartbeats 1000000 in
theorem aowner_ok (h : Mk w lo hi p qs qo pm lm hm cs co P M) (g : Nat) (hg : g < M.ng) :
    Calls Tryd.prog 40 #[.pointer (some ⟨p, 0, none⟩), .int .i64 g] w fun e w' => e = .returned (.tuple #[.int .i64 (M.ow g), .int .i64 0]) ∧ Below w.heap.size w w' := by
  have H := Lib.hid h
  obtain ⟨t0, t1, t2, t3, t4, t5, t6, t7, t8, t9⟩ := ten_at h.top
  obtain ⟨hp, _, _⟩ := h.lt
  have hn := Ma.n_of h.mm.ok
  have hI := inB_yes (l := 0) (m := (M.ng : Int) - 1) (x := g) (by omega)
  have hn1 : 1 ≤ (M.ng : Int) := by omega
  have hn2 : (M.ng : Int) ≤ 16 := by omega
  have hgi : (g : Int) < (M.ng : Int) := by omega
  have HG := Lib.hid hg
  clear h hn hg
  go_enter Tryd.func40, Tryd.ntmps40
  go_wp2_with fail
  refine (within_new _ _ _ _ _ _ rfl).mono ?_
  rintro e w1 ⟨rfl, hw⟩
  rw [hw]
  clear hw
  obtain ⟨w0, hw0⟩ : ∃ W, W = w.alloc (.cells #[.int .i64 g] 3) := ⟨_, rfl⟩
  have hb0 : Below w.heap.size w w0 := by rw [hw0]; exact ext_alloc _ (Below.refl _ _)
  rw [← hw0]
  have HB0 := Lib.hid hb0
  clear hw0 hb0 t0 t1 t2 t3 t4 t5 t6 t7 t8 t9 hp
  obtain ⟨t0, t1, t2, t3, t4, t5, t6, t7, t8, t9⟩ := ten_at (H.out.ext HB0.out).top
  obtain ⟨hp, _, hq⟩ := (H.out.ext HB0.out).lt
  obtain ⟨y0, yf⟩ := (H.out.ext HB0.out).own g HG.out
  go_wp2_with fail
  go_ret2
  exact ⟨rfl, HB0.out⟩
theorem aget_no (h : Mk w lo hi p qs qo pm lm hm cs co P M) (hL : Lims w) (x : Int) (hx : x < 0 ∨ 2 * (M.m.n : Int) ≤ x) :
    Calls Tryd.prog 41 #[.pointer (some ⟨p, 0, none⟩), .int .i64 x] w fun e w' => e = .returned (.tuple #[.int .i64 0, .int .i64 10]) ∧ Below w.heap.size w w' := by
  obtain ⟨t0, t1, t2, t3, t4, t5, t6, t7, t8, t9⟩ := ten_at h.top
  obtain ⟨hp, _, _⟩ := h.lt
  have HC := Lib.hid (bget_no h.mm hL x hx)
  clear h hL hx
  go_enter Tryd.func41, Tryd.ntmps41
  go_wp2_with fail
  refine HC.out.mono ?_
  rintro e w1 ⟨rfl, hb⟩
  go_wp2_with fail
  go_ret2
  exact ⟨rfl, hb⟩
theorem aget_ok (h : Mk w lo hi p qs qo pm lm hm cs co P M) (hL : Lims w) (k : Nat) (hk : k < 2 * M.m.n) :
    Calls Tryd.prog 41 #[.pointer (some ⟨p, 0, none⟩), .int .i64 k] w fun e w' => e = .returned (.tuple #[.int .i64 (M.m.wd k), .int .i64 0]) ∧ Below w.heap.size w w' := by
  obtain ⟨t0, t1, t2, t3, t4, t5, t6, t7, t8, t9⟩ := ten_at h.top
  obtain ⟨hp, _, _⟩ := h.lt
  have HC := Lib.hid (bget_ok h.mm hL k hk)
  clear h hL hk
  go_enter Tryd.func41, Tryd.ntmps41
  go_wp2_with fail
  refine HC.out.mono ?_
  rintro e w1 ⟨rfl, hb⟩
  go_wp2_with fail
  go_ret2
  exact ⟨rfl, hb⟩
set_option maxRecDepth 100000 in
set_option maxHeartbeats 1000000 in
theorem acore_ok (h : Mk w lo hi p qs qo pm lm hm cs co P M) (i : Nat) (hi' : i < M.nc) :
    Calls Tryd.prog 33 #[.pointer (some ⟨p, 0, none⟩), .int .i64 i] w fun e w' => e = .returned (.tuple #[.agg #[.int .i64 ((M.se i).r 0), .int .i64 ((M.se i).r 1), .int .i64 ((M.se i).r 2), .int .i64 ((M.se i).r 3), .int .i64 (M.se i).a, .int .i64 (M.se i).wo, .bool (M.se i).ov], .int .i64 0]) ∧ Below w.heap.size w w' := by
  have H := Lib.hid h
  obtain ⟨t0, t1, t2, t3, t4, t5, t6, t7, t8, t9⟩ := ten_at h.top
  obtain ⟨hp, _, _⟩ := h.lt
  have hn := Ma.n_of h.mm.ok
  have hI := inB_yes (l := 0) (m := (M.nc : Int) - 1) (x := i) (by omega)
  have hn1 : 1 ≤ (M.nc : Int) := by omega
  have hn2 : (M.nc : Int) ≤ 4 := by omega
  have hgi : (i : Int) < (M.nc : Int) := by omega
  have HI := Lib.hid hi'
  clear h hn hi'
  go_enter Tryd.func33, Tryd.ntmps33
  go_wp2_with fail
  refine (within_new _ _ _ _ _ _ (by simp)).mono ?_
  rintro e w1 ⟨rfl, hw⟩
  rw [hw]
  clear hw
  obtain ⟨w0, hw0⟩ : ∃ W, W = (w.alloc (.cells #[.int .i64 0, .int .i64 0, .int .i64 0, .int .i64 0, .int .i64 0, .int .i64 0, .bool false] 32)).alloc (.cells #[.int .i64 i] 3) := ⟨_, rfl⟩
  have hb0 : Below w.heap.size w w0 := by rw [hw0]; exact (by repeat (with_reducible first | exact Below.refl _ _ | assumption | (refine ext_next (by assumption) ?_) | apply ext_alloc | apply ext_past | apply ext_drew | apply ext_drewN))
  have HR0 : Hid (w0.heap[w.heap.size]? = some (.cells #[.int .i64 0, .int .i64 0, .int .i64 0, .int .i64 0, .int .i64 0, .int .i64 0, .bool false] 32 (0, 0))) := Lib.hid (by rw [hw0]; exact alOld (alNew rfl))
  rw [← hw0]
  have HB0 := Lib.hid hb0
  clear hw0 hb0 t0 t1 t2 t3 t4 t5 t6 t7 t8 t9 hp
  obtain ⟨t0, t1, t2, t3, t4, t5, t6, t7, t8, t9⟩ := ten_at (H.out.ext HB0.out).top
  obtain ⟨hp, hq, _⟩ := (H.out.ext HB0.out).lt
  have y0 := (H.out.ext HB0.out).reg i HI.out 0 (by omega)
  have y1 := (H.out.ext HB0.out).reg i HI.out 1 (by omega)
  have y2 := (H.out.ext HB0.out).reg i HI.out 2 (by omega)
  have y3 := (H.out.ext HB0.out).reg i HI.out 3 (by omega)
  rw [Nat.add_zero] at y0
  obtain ⟨y4, y5, y6, _, _⟩ := (H.out.ext HB0.out).sc i HI.out
  obtain ⟨r0, r1, r2, r3, r4, r5, r6, rf, rl⟩ := ev_cells HR0.out
  have hne : qs ≠ w.heap.size := by have := H.out.lt.2.1; omega
  go_wp2_with fail
  obtain ⟨w9, hw9⟩ : ∃ W, W = set7 w0 w.heap.size (.int .i64 ((M.se i).r 0)) (.int .i64 ((M.se i).r 1)) (.int .i64 ((M.se i).r 2)) (.int .i64 ((M.se i).r 3)) (.int .i64 (M.se i).a) (.int .i64 (M.se i).wo) (.bool (M.se i).ov) := ⟨_, rfl⟩
  have hbk := set7_blk (.int .i64 ((M.se i).r 0)) (.int .i64 ((M.se i).r 1)) (.int .i64 ((M.se i).r 2)) (.int .i64 ((M.se i).r 3)) (.int .i64 (M.se i).a) (.int .i64 (M.se i).wo) (.bool (M.se i).ov) HR0.out
  have hrg := set7_grown w0 w.heap.size (.int .i64 ((M.se i).r 0)) (.int .i64 ((M.se i).r 1)) (.int .i64 ((M.se i).r 2)) (.int .i64 ((M.se i).r 3)) (.int .i64 (M.se i).a) (.int .i64 (M.se i).wo) (.bool (M.se i).ov)
  rw [← hw9] at hbk hrg
  unfold set7 at hw9
  rw [← hw9]
  clear r0 r1 r2 r3 r4 r5 r6 rf rl hw9
  obtain ⟨r0, r1, r2, r3, r4, r5, r6, rf, rl⟩ := ev_cells hbk
  (try simp only [Exit.inBlock, Exit.then]); refine bodyPost_ret (by simp [results, Tryd.results33, go_sem, r0, r1, r2, r3, r4, r5, r6]; try rfl) rfl ?_
  exact ⟨rfl, HB0.out.grown hrg HB0.out.size (fun k e => by cases e; exact Nat.le_refl _)⟩
theorem acore_nil (x : Int) (w : World) : Calls Tryd.prog 33 #[.pointer none, .int .i64 x] w fun e w' => e = .returned (.tuple #[.agg #[.int .i64 0, .int .i64 0, .int .i64 0, .int .i64 0, .int .i64 0, .int .i64 0, .bool false], .int .i64 2]) ∧ Below w.heap.size w w' := by
  go_enter Tryd.func33, Tryd.ntmps33
  go_wp2
  (try simp only [Exit.inBlock, Exit.then]); refine bodyPost_ret (by simp [results, Tryd.results33, go_sem]; try rfl) rfl ?_
  exact ⟨rfl, (by repeat (with_reducible first | exact Below.refl _ _ | assumption | (refine ext_next (by assumption) ?_) | apply ext_alloc | apply ext_past | apply ext_drew | apply ext_drewN))⟩
set_option maxRecDepth 100000 in
set_option maxHeartbeats 1000000 in
theorem acore_no (h : Mk w lo hi p qs qo pm lm hm cs co P M) (x : Int) (hx : x < 0 ∨ (M.nc : Int) ≤ x) :
    Calls Tryd.prog 33 #[.pointer (some ⟨p, 0, none⟩), .int .i64 x] w fun e w' => e = .returned (.tuple #[.agg #[.int .i64 0, .int .i64 0, .int .i64 0, .int .i64 0, .int .i64 0, .int .i64 0, .bool false], .int .i64 10]) ∧ Below w.heap.size w w' := by
  obtain ⟨t0, t1, t2, t3, t4, t5, t6, t7, t8, t9⟩ := ten_at h.top
  obtain ⟨hp, _, _⟩ := h.lt
  have hn := Ma.n_of h.mm.ok
  have hI := inB_no (l := 0) (m := (M.nc : Int) - 1) (x := x) (by omega)
  have hn1 : 1 ≤ (M.nc : Int) := by omega
  have hn2 : (M.nc : Int) ≤ 4 := by omega
  clear h hn hx
  go_enter Tryd.func33, Tryd.ntmps33
  go_wp2_with fail
  refine (within_new _ _ _ _ _ _ (by simp)).mono ?_
  rintro e w1 ⟨rfl, hw⟩
  rw [hw]
  clear hw
  go_wp2_with fail
  (try simp only [Exit.inBlock, Exit.then]); refine bodyPost_ret (by simp [results, Tryd.results33, go_sem]; try rfl) rfl ?_
  exact ⟨rfl, (by repeat (with_reducible first | exact Below.refl _ _ | assumption | (refine ext_next (by assumption) ?_) | apply ext_alloc | apply ext_past | apply ext_drew | apply ext_drewN))⟩
end

end Go.Proofs.YtkobeajbiendlaaDoor
namespace Go.Proofs.YtkobeajbiendlaaDoor
open Go.RowKit

section
variable {w : World} {lo hi p qs qo pm lm hm cs co : Nat} {P : Nat → Value} {M : Ma}

set_option maxRecDepth 100000 in
set_option maxHeartbeats 1000000 in
theorem astep_nil (x : Int) (b : Bool) :
    Calls Tryd.prog 34 #[.pointer none, .int .i64 x, .bool b] w fun e w' => e = .returned (.tuple #[.agg #[.int .i64 0, .int .i64 0, .int .i64 0, .int .i64 0, .int .i64 0, .int .i64 0, .int .i64 0], .int .i64 2]) ∧ Below w.heap.size w w' := by
  go_enter Tryd.func34, Tryd.ntmps34
  go_wp2
  (try simp only [Exit.inBlock, Exit.then]); refine bodyPost_ret (by simp [results, Tryd.results34, go_sem]; try rfl) rfl ?_
  exact ⟨rfl, (by repeat (with_reducible first | exact Below.refl _ _ | assumption | (refine ext_next (by assumption) ?_) | apply ext_alloc | apply ext_past | apply ext_drew | apply ext_drewN))⟩

set_option maxRecDepth 100000 in
set_option maxHeartbeats 1000000 in
theorem astep_range (h : Mk w lo hi p qs qo pm lm hm cs co P M) (x : Int) (b : Bool) (hx : x < 0 ∨ (M.nc : Int) ≤ x) :
    Calls Tryd.prog 34 #[.pointer (some ⟨p, 0, none⟩), .int .i64 x, .bool b] w fun e w' => e = .returned (.tuple #[.agg #[.int .i64 0, .int .i64 0, .int .i64 0, .int .i64 0, .int .i64 0, .int .i64 0, .int .i64 0], .int .i64 10]) ∧ Below w.heap.size w w' := by
  obtain ⟨t0, t1, t2, t3, t4, t5, t6, t7, t8, t9⟩ := ten_at h.top
  obtain ⟨hp, _, _⟩ := h.lt
  have hn := Ma.n_of h.mm.ok
  have hI := inB_no (l := 0) (m := (M.nc : Int) - 1) (x := x) (by omega)
  have hn1 : 1 ≤ (M.nc : Int) := by omega
  have hn2 : (M.nc : Int) ≤ 4 := by omega
  clear h hn hx
  go_enter Tryd.func34, Tryd.ntmps34
  go_wp2_with fail
  refine (within_new _ _ _ _ _ _ (by simp)).mono ?_
  rintro e w1 ⟨rfl, hw⟩
  rw [hw]
  clear hw
  go_wp2_with fail
  (try simp only [Exit.inBlock, Exit.then]); refine bodyPost_ret (by simp [results, Tryd.results34, go_sem]; try rfl) rfl ?_
  exact ⟨rfl, (by repeat (with_reducible first | exact Below.refl _ _ | assumption | (refine ext_next (by assumption) ?_) | apply ext_alloc | apply ext_past | apply ext_drew | apply ext_drewN))⟩

set_option maxRecDepth 100000 in
set_option maxHeartbeats 1000000 in
theorem astep_over (h : Mk w lo hi p qs qo pm lm hm cs co P M) (i : Nat) (b : Bool) (hi' : i < M.nc) (ho : (M.se i).ov = true) :
    Calls Tryd.prog 34 #[.pointer (some ⟨p, 0, none⟩), .int .i64 i, .bool b] w fun e w' => e = .returned (.tuple #[.agg #[.int .i64 0, .int .i64 0, .int .i64 0, .int .i64 0, .int .i64 0, .int .i64 0, .int .i64 0], .int .i64 20]) ∧ Below w.heap.size w w' := by
  have H := Lib.hid h
  obtain ⟨t0, t1, t2, t3, t4, t5, t6, t7, t8, t9⟩ := ten_at h.top
  obtain ⟨hp, hq, _⟩ := h.lt
  have hn := Ma.n_of h.mm.ok
  have hI := inB_yes (l := 0) (m := (M.nc : Int) - 1) (x := i) (by omega)
  have hn1 : 1 ≤ (M.nc : Int) := by omega
  have hn2 : (M.nc : Int) ≤ 4 := by omega
  have hgi : (i : Int) < (M.nc : Int) := by omega
  have hi4 : (i : Int) < 4 := by omega
  obtain ⟨_, _, c6, _, _⟩ := h.sc i hi'
  rw [ho] at c6
  clear h hn hi' ho
  go_enter Tryd.func34, Tryd.ntmps34
  go_wp2_with fail
  refine (within_new _ _ _ _ _ _ (by simp)).mono ?_
  rintro e w1 ⟨rfl, hw⟩
  rw [hw]
  clear hw
  go_wp2_with fail
  (try simp only [Exit.inBlock, Exit.then]); refine bodyPost_ret (by simp [results, Tryd.results34, go_sem]; try rfl) rfl ?_
  exact ⟨rfl, (by repeat (with_reducible first | exact Below.refl _ _ | assumption | (refine ext_next (by assumption) ?_) | apply ext_alloc | apply ext_past | apply ext_drew | apply ext_drewN))⟩

set_option maxRecDepth 100000 in
set_option maxHeartbeats 1000000 in
theorem anext_nil (x : Int) :
    Calls Tryd.prog 43 #[.pointer none, .int .i64 x] w fun e w' => e = .returned (.tuple #[.agg #[.int .i64 0, .int .i64 0, .int .i64 0, .int .i64 0], .bool false]) ∧ Below w.heap.size w w' := by
  go_enter Tryd.func43, Tryd.ntmps43
  go_wp2
  (try simp only [Exit.inBlock, Exit.then]); refine bodyPost_ret (by simp [results, Tryd.results43, go_sem]; try rfl) rfl ?_
  exact ⟨rfl, (by repeat (with_reducible first | exact Below.refl _ _ | assumption | (refine ext_next (by assumption) ?_) | apply ext_alloc | apply ext_past | apply ext_drew | apply ext_drewN))⟩

set_option maxRecDepth 100000 in
set_option maxHeartbeats 1000000 in
theorem anext_range (h : Mk w lo hi p qs qo pm lm hm cs co P M) (x : Int) (hx : x < 0 ∨ (M.nc : Int) ≤ x) :
    Calls Tryd.prog 43 #[.pointer (some ⟨p, 0, none⟩), .int .i64 x] w fun e w' => e = .returned (.tuple #[.agg #[.int .i64 0, .int .i64 0, .int .i64 0, .int .i64 0], .bool false]) ∧ Below w.heap.size w w' := by
  obtain ⟨t0, t1, t2, t3, t4, t5, t6, t7, t8, t9⟩ := ten_at h.top
  obtain ⟨hp, _, _⟩ := h.lt
  have hn := Ma.n_of h.mm.ok
  have hI := inB_no (l := 0) (m := (M.nc : Int) - 1) (x := x) (by omega)
  have hn1 : 1 ≤ (M.nc : Int) := by omega
  have hn2 : (M.nc : Int) ≤ 4 := by omega
  clear h hn hx
  go_enter Tryd.func43, Tryd.ntmps43
  go_wp2_with fail
  refine (within_new _ _ _ _ _ _ (by simp)).mono ?_
  rintro e w1 ⟨rfl, hw⟩
  rw [hw]
  clear hw
  go_wp2_with fail
  (try simp only [Exit.inBlock, Exit.then]); refine bodyPost_ret (by simp [results, Tryd.results43, go_sem]; try rfl) rfl ?_
  exact ⟨rfl, (by repeat (with_reducible first | exact Below.refl _ _ | assumption | (refine ext_next (by assumption) ?_) | apply ext_alloc | apply ext_past | apply ext_drew | apply ext_drewN))⟩

set_option maxRecDepth 100000 in
set_option maxHeartbeats 1000000 in
theorem anext_over (h : Mk w lo hi p qs qo pm lm hm cs co P M) (i : Nat) (hi' : i < M.nc) (ho : (M.se i).ov = true) :
    Calls Tryd.prog 43 #[.pointer (some ⟨p, 0, none⟩), .int .i64 i] w fun e w' => e = .returned (.tuple #[.agg #[.int .i64 0, .int .i64 0, .int .i64 0, .int .i64 0], .bool false]) ∧ Below w.heap.size w w' := by
  have H := Lib.hid h
  obtain ⟨t0, t1, t2, t3, t4, t5, t6, t7, t8, t9⟩ := ten_at h.top
  obtain ⟨hp, hq, _⟩ := h.lt
  have hn := Ma.n_of h.mm.ok
  have hI := inB_yes (l := 0) (m := (M.nc : Int) - 1) (x := i) (by omega)
  have hn1 : 1 ≤ (M.nc : Int) := by omega
  have hn2 : (M.nc : Int) ≤ 4 := by omega
  have hgi : (i : Int) < (M.nc : Int) := by omega
  have hi4 : (i : Int) < 4 := by omega
  obtain ⟨_, _, c6, _, _⟩ := h.sc i hi'
  rw [ho] at c6
  clear h hn hi' ho
  go_enter Tryd.func43, Tryd.ntmps43
  go_wp2_with fail
  refine (within_new _ _ _ _ _ _ (by simp)).mono ?_
  rintro e w1 ⟨rfl, hw⟩
  rw [hw]
  clear hw
  go_wp2_with fail
  (try simp only [Exit.inBlock, Exit.then]); refine bodyPost_ret (by simp [results, Tryd.results43, go_sem]; try rfl) rfl ?_
  exact ⟨rfl, (by repeat (with_reducible first | exact Below.refl _ _ | assumption | (refine ext_next (by assumption) ?_) | apply ext_alloc | apply ext_past | apply ext_drew | apply ext_drewN))⟩
end

end Go.Proofs.YtkobeajbiendlaaDoor
namespace Go.Proofs.YtkobeajbiendlaaDoor
open Go.RowKit

section
variable {w : World} {lo hi p qs qo pm lm hm cs co : Nat} {P : Nat → Value} {M : Ma}
theorem set4_at {W : World} {b : Nat} {x y z u : Value} {t : TypeId} (x' y' z' u' : Value) (h : W.heap[b]? = some (.cells #[x, y, z, u] t (0, 0))) : ((((W.setCell ⟨b, 0, none⟩ x').setCell ⟨b, 1, none⟩ y').setCell ⟨b, 2, none⟩ z').setCell ⟨b, 3, none⟩ u').heap[b]? = some (.cells #[x', y', z', u'] t (0, 0)) := by
  have s0 := Joins.block_setCell (i := 0) h x'
  have s1 := Joins.block_setCell (i := 1) s0 y'
  have s2 := Joins.block_setCell (i := 2) s1 z'
  have s3 := Joins.block_setCell (i := 3) s2 u'
  simpa using s3
set_option maxRecDepth 100000 in
set_option maxHeartbeats 2000000 in
theorem anext_ok (h : Mk w lo hi p qs qo pm lm hm cs co P M) (i k : Nat) (o a b' c : Int) (hi' : i < M.nc) (ha : (M.se i).a = k) (hk : k < (M.se i).ps.length) (hl : (M.se i).ps.length ≤ 32) (ho : (M.se i).ov = false) (hx : atI (M.se i).ps k = ⟨o, a, b', c⟩) :
    Calls Tryd.prog 43 #[.pointer (some ⟨p, 0, none⟩), .int .i64 i] w fun e w' => e = .returned (.tuple #[.agg #[.int .i64 o, .int .i64 a, .int .i64 b', .int .i64 c], .bool true]) ∧ Below w.heap.size w w' := by
  have H := Lib.hid h
  obtain ⟨t0, t1, t2, t3, t4, t5, t6, t7, t8, t9⟩ := ten_at h.top
  obtain ⟨hp, hq, _⟩ := h.lt
  have hn := Ma.n_of h.mm.ok
  have hI := inB_yes (l := 0) (m := (M.nc : Int) - 1) (x := i) (by omega)
  have hn1 : 1 ≤ (M.nc : Int) := by omega
  have hn2 : (M.nc : Int) ≤ 4 := by omega
  have hii : (i : Int) < (M.nc : Int) := by omega
  have hi4 : (i : Int) < 4 := by omega
  obtain ⟨A, cap, hP, hS, _⟩ := (h.pg i hi').1
  obtain ⟨b, off, hA, hbl, hcs⟩ := hS (by omega)
  subst hA
  have hck := hcs k hk
  rw [hx] at hck
  dsimp only at hck
  obtain ⟨y0, y1, y2, y3⟩ := hck
  clear hcs
  have hkl : (k : Int) < ((M.se i).ps.length : Int) := by omega
  have hk32 : (k : Int) ≤ 32 := by omega
  have HC := Lib.hid (fun (W : World) (hb : Below w.heap.size w W) => (h.ext hb).sc i hi')
  rw [ha, ho, hP] at HC
  have HY := Lib.hid (And.intro hbl (And.intro y0 (And.intro y1 (And.intro y2 y3))))
  have HI := Lib.hid (And.intro hi' (And.intro hk hl))
  clear h hn hi' ha hk hl ho hx hP hS y0 y1 y2 y3 hbl
  generalize hln : (M.se i).ps.length = ln at *
  have HLN := Lib.hid hln
  clear hln
  go_enter Tryd.func43, Tryd.ntmps43
  go_wp2_with fail
  refine (within_new _ _ _ _ _ _ (by simp)).mono ?_
  rintro e wx ⟨rfl, hw⟩
  rw [hw]
  clear hw
  obtain ⟨w1, hw1⟩ : ∃ W, W = (w.alloc (.cells #[.int .i64 0, .int .i64 0, .int .i64 0, .int .i64 0] 36)).alloc (.cells #[.int .i64 i] 3) := ⟨_, rfl⟩
  have hb1 : Below w.heap.size w w1 := by rw [hw1]; exact (by repeat (with_reducible first | exact Below.refl _ _ | assumption | (refine ext_next (by assumption) ?_) | apply ext_alloc | apply ext_past | apply ext_drew | apply ext_drewN))
  have HR1 : Hid (w1.heap[w.heap.size]? = some (.cells #[.int .i64 0, .int .i64 0, .int .i64 0, .int .i64 0] 36 (0, 0))) := Lib.hid (by rw [hw1]; exact alOld (alNew rfl))
  rw [← hw1]
  have HB1 := Lib.hid hb1
  clear hw1 hb1 t0 t1 t2 t3 t4 t5 t6 t7 t8 t9 hp hq
  obtain ⟨t0, t1, t2, t3, t4, t5, t6, t7, t8, t9⟩ := ten_at (H.out.ext HB1.out).top
  obtain ⟨hp, hq, _⟩ := (H.out.ext HB1.out).lt
  obtain ⟨c4, c5, c6, c7, _⟩ := HC.out _ HB1.out
  have hbl := Nat.lt_of_lt_of_le HY.out.1 HB1.out.size
  have y0 := (HB1.out.cell (p := ⟨b, _, none⟩) HY.out.1).trans HY.out.2.1
  have y1 := (HB1.out.cell (p := ⟨b, _, none⟩) HY.out.1).trans HY.out.2.2.1
  have y2 := (HB1.out.cell (p := ⟨b, _, none⟩) HY.out.1).trans HY.out.2.2.2.1
  have y3 := (HB1.out.cell (p := ⟨b, _, none⟩) HY.out.1).trans HY.out.2.2.2.2
  obtain ⟨r0, r1, r2, r3, rl⟩ := ins_cells (x := ⟨0, 0, 0, 0⟩) HR1.out
  dsimp only at r0 r1 r2 r3
  have rf : ∀ i, w1.frozen? ⟨w.heap.size, i, none⟩ = false := fun i => by simp [World.frozen?, HR1.out]
  go_wp2_with fail
  go_region
  have hX := set4_at (.int .i64 o) (.int .i64 a) (.int .i64 b') (.int .i64 c) HR1.out
  obtain ⟨w9, hw9⟩ : ∃ W, W = ((((w1.setCell ⟨w.heap.size, 0, none⟩ (.int .i64 o)).setCell ⟨w.heap.size, 1, none⟩ (.int .i64 a)).setCell ⟨w.heap.size, 2, none⟩ (.int .i64 b')).setCell ⟨w.heap.size, 3, none⟩ (.int .i64 c)).drew := ⟨_, rfl⟩
  have hb9 : Below w.heap.size w w9 := by
    rw [hw9]
    exact ext_drew (((((HB1.out.setCell (p := ⟨w.heap.size, 0, none⟩) (Nat.le_refl _) _).setCell (p := ⟨w.heap.size, 1, none⟩) (Nat.le_refl _) _).setCell (p := ⟨w.heap.size, 2, none⟩) (Nat.le_refl _) _).setCell (p := ⟨w.heap.size, 3, none⟩) (Nat.le_refl _) _))
  have hX9 : w9.heap[w.heap.size]? = some (.cells #[.int .i64 o, .int .i64 a, .int .i64 b', .int .i64 c] 36 (0, 0)) := by rw [hw9]; exact hX
  rw [← hw9]
  clear hw9 r0 r1 r2 r3 rl rf
  obtain ⟨r0, r1, r2, r3, rl⟩ := ins_cells (x := ⟨o, a, b', c⟩) hX9
  dsimp only at r0 r1 r2 r3
  go_wp2_with fail
  (try simp only [Exit.inBlock, Exit.then]); refine bodyPost_ret (by simp [results, Tryd.results43, go_sem, r0, r1, r2, r3]; try rfl) rfl ?_
  exact ⟨rfl, hb9⟩
end

end Go.Proofs.YtkobeajbiendlaaDoor
