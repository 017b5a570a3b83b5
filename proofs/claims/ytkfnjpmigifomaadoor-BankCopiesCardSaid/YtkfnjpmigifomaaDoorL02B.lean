/- What this text holds: a call done with a memory and with the document's: does of the package of statements. Condition: the table of limits holds what its initialiser lays. -/
import Derived.Test.YtkfnjpmigifomaaDoorL02A
import Derived.Deep.RegionHeld3
namespace Go.Proofs.YtkfnjpmigifomaaDoor
open Go.RowKit

/-- Blocks of a class alone were turned; blocks were added. -/
structure Ou (X : Nat → Prop) (w w' : World) : Prop where
  os : w'.os = w.os
  tape : w'.tape = w.tape
  output : w'.output = w.output
  size : w.heap.size ≤ w'.heap.size
  block : ∀ k, k < w.heap.size → ¬ X k → w'.heap[k]? = w.heap[k]?
theorem Ou.refl (X : Nat → Prop) (w : World) : Ou X w w := ⟨rfl, rfl, rfl, Nat.le_refl _, fun _ _ _ => rfl⟩
theorem Ou.of_below {X : Nat → Prop} {w w' : World} (h : Below w.heap.size w w') : Ou X w w' := ⟨h.os, h.tape, h.output, h.size, fun k hk _ => h.block k hk⟩
theorem Ou.of_rg {X : Nat → Prop} {lo hi : Nat} {w w' : World} (h : Rg lo hi w w') (hX : ∀ k, lo ≤ k → k < hi → X k) : Ou X w w' := ⟨h.os, h.tape, h.output, h.size, fun k hk hn => h.block k hk (by
  by_cases h1 : k < lo
  · exact .inl h1
  · by_cases h2 : hi ≤ k
    · exact .inr h2
    · exact absurd (hX k (by omega) (by omega)) hn)⟩
theorem Ou.trans {X : Nat → Prop} {a b c : World} (h : Ou X a b) (k : Ou X b c) : Ou X a c :=
  ⟨k.os.trans h.os, k.tape.trans h.tape, k.output.trans h.output, Nat.le_trans h.size k.size, fun j hj hn => (k.block j (Nat.lt_of_lt_of_le hj h.size) hn).trans (h.block j hj hn)⟩
theorem Ou.mono {X Y : Nat → Prop} {w w' : World} (h : Ou X w w') (hX : ∀ k, X k → Y k) : Ou Y w w' := ⟨h.os, h.tape, h.output, h.size, fun k hk hn => h.block k hk (fun hx => hn (hX k hx))⟩
theorem Ou.below {X : Nat → Prop} {w0 w w' : World} (h : Ou X w w') (hb : Below w0.heap.size w0 w) (hX : ∀ k, X k → w0.heap.size ≤ k) : Below w0.heap.size w0 w' :=
  ⟨h.os.trans hb.os, h.tape.trans hb.tape, h.output.trans hb.output, Nat.le_trans hb.size h.size, fun k hk => (h.block k (Nat.lt_of_lt_of_le hk hb.size) (fun hx => by have := hX k hx; omega)).trans (hb.block k hk)⟩
theorem Bm.ou {w w' : World} {lo hi p : Nat} {m : Mm} {X : Nat → Prop} (h : Bm w lo hi p m) (hr : Ou X w w') (hX : ∀ k, X k → k < lo ∨ hi ≤ k) : Bm w' lo hi p m := by
  obtain ⟨q, R, h⟩ := h
  exact ⟨q, R, h.keep (fun k h1 h2 => hr.block k (by have := h.sz; omega) (fun hx => by have := hX k hx; omega)) hr.size⟩
theorem Rm.ou {w w' : World} {lo hi p : Nat} {m : Mm} {X : Nat → Prop} (h : Rm w lo hi p m) (hr : Ou X w w') (hX : ∀ k, X k → k < lo ∨ hi ≤ k) : Rm w' lo hi p m := by
  obtain ⟨q, c, h⟩ := h
  exact ⟨q, c, h.keep (fun k h1 h2 => hr.block k (by have := h.sz; omega) (fun hx => by have := hX k hx; omega)) hr.size⟩

/-- A memory and the document's, side by side. -/
structure Bo (w : World) (lo hi p lo' hi' p' : Nat) (m : Mm) : Prop where
  b : Bm w lo hi p m
  r : Rm w lo' hi' p' m
  d : hi ≤ lo' ∨ hi' ≤ lo
  gl : 1 < lo'
/-- The blocks of both. -/
def In2 (lo hi lo' hi' k : Nat) : Prop := (lo ≤ k ∧ k < hi) ∨ (lo' ≤ k ∧ k < hi')
theorem Bo.ext {w w' : World} {lo hi p lo' hi' p' : Nat} {m : Mm} (h : Bo w lo hi p lo' hi' p' m) (hb : Below w.heap.size w w') : Bo w' lo hi p lo' hi' p' m := ⟨h.b.ext hb, h.r.ext hb, h.d, h.gl⟩

theorem err02_yes (w : World) : Calls Tryd.prog 60 #[.bool true] w fun e w' => e = .returned (.int .i64 0) ∧ w' = w := by
  go_enter Tryd.func60, Tryd.ntmps60
  go_wp2
  go_ret
  exact ⟨rfl, rfl⟩
theorem err02_no (w : World) : Calls Tryd.prog 60 #[.bool false] w fun e w' => e = .returned (.int .i64 10) ∧ w' = w := by
  go_enter Tryd.func60, Tryd.ntmps60
  go_wp2
  go_ret
  exact ⟨rfl, rfl⟩
theorem five_at {W : World} {B : Nat} {x0 x1 x2 x3 x4 : Value} {t : TypeId} (h : W.heap[B]? = some (.cells #[x0, x1, x2, x3, x4] t (0, 0))) :
    W.cell? ⟨B, 0, none⟩ = some x0 ∧ W.cell? ⟨B, 1, none⟩ = some x1 ∧ W.cell? ⟨B, 2, none⟩ = some x2 ∧ W.cell? ⟨B, 3, none⟩ = some x3 ∧ W.cell? ⟨B, 4, none⟩ = some x4 ∧ B < W.heap.size := by
  refine ⟨?_, ?_, ?_, ?_, ?_, lt_of h⟩ <;> simp [World.cell?, h]
/-- A call's numbers. -/
structure Op2 where
  ask : Int
  at' : Int
  v : Int
  a : Int
  b : Int
abbrev Op2.val (o : Op2) : Value := .agg #[.int .i64 o.ask, .int .i64 o.at', .int .i64 o.v, .int .i64 o.a, .int .i64 o.b]

-- WALKS
-- WALKS
-- WALKS
-- WALKS
-- WALKS
set_option maxHeartbeats 4000000 in
theorem d02_read_ok {w : World} {lo hi p lo' hi' p' : Nat} {m : Mm} (h : Bo w lo hi p lo' hi' p' m) (hL : Lims w) (l : Nat) (hl : l < m.n) (v a b : Int) :
    Calls Tryd.prog 14 #[.pointer (some ⟨p, 0, none⟩), .pointer (some ⟨p', 0, none⟩), .agg #[.int .i64 0, .int .i64 l, .int .i64 v, .int .i64 a, .int .i64 b]] w fun e w' => e = .returned (.bool true) ∧ Bo w' lo hi p lo' hi' p' (m.got l) ∧ Ou (In2 lo hi lo' hi') w w' := by
  have H := Lib.hid h
  have HL := Lib.hid hL
  have HSZ := Lib.hid (And.intro h.b.sz (And.intro h.r.sz (And.intro h.b.gl (And.intro h.d h.gl))))
  obtain ⟨q, cap, hrk⟩ := h.r
  obtain ⟨k0, _⟩ := hrk.sl
  obtain ⟨hpl, hql⟩ := hrk.lt
  have HRK := Lib.hid hrk
  have hn32 := m.n_le
  have e0 : decide ((l : Int) ≥ 0) = true := by simp
  have hl2 : l < 2 * m.n := by omega
  have HLL := Lib.hid hl
  clear hl
  have e1 : decide (l < 2 * m.n) = true := by simpa using hl2
  clear h hL hrk hn32
  generalize hN2 : 2 * m.n = N2 at *
  have HN2 := Lib.hid hN2
  clear hN2
  go_enter Tryd.func14, Tryd.ntmps14
  go_wp2_with fail
  refine region_past (by kernel_rfl) (by kernel_rfl) ?_; (repeat (go_big_quiet_step (fail))); refine wpQuiet_nil ?_; rintro _ ⟨pw, rfl⟩
  have hb0 : Below w.heap.size w pw.val := ext_past pw (ext_alloc _ (Below.refl _ _))
  have hx0 := (pw.below.block w.heap.size (by simp)).trans (alNew rfl)
  generalize pw.val = W0 at hb0 hx0 ⊢
  have HX0 := Lib.hid hx0
  have HM0 := Lib.hid (H.out.b.ext hb0)
  have HR0 := Lib.hid (H.out.r.ext hb0)
  have HO0 := Lib.hid (Ou.of_below (X := In2 lo hi lo' hi') hb0)
  have HL0 := Lib.hid (HL.out.ext hb0)
  obtain ⟨x0, x1, x2, x3, x4, xl⟩ := five_at hx0
  have hrk0 := HRK.out.ext hb0
  obtain ⟨k0, _⟩ := hrk0.sl
  obtain ⟨hpl, hql⟩ := hrk0.lt
  have HRK0 := Lib.hid hrk0
  rw [HN2.out] at k0
  clear hb0 hx0 hrk0
  clear k0 hpl hql
  go_wp2_with fail
  refine (bread_ok HM0.out HL0.out l HLL.out).mono ?_
  rintro e w1 ⟨rfl, hm, hrg⟩
  have HM1 := Lib.hid hm
  have HR1 := Lib.hid (HR0.out.rg hrg HSZ.out.2.2.2.1.symm)
  have HO1 := Lib.hid (HO0.out.trans (Ou.of_rg hrg (fun k h1 h2 => .inl ⟨h1, h2⟩)))
  have hx := (hrg.block _ (lt_of HX0.out) (.inr HSZ.out.1.1)).trans HX0.out
  have HL1 := Lib.hid (HL0.out.keepR hrg HSZ.out.2.2.1)
  have HX1 := Lib.hid hx
  clear x0 x1 x2 x3 x4 xl
  obtain ⟨x0, x1, x2, x3, x4, xl⟩ := five_at hx
  clear hx hrg hm
  have hs1 := HM1.out.sz
  have hs1r := HR1.out.sz
  go_wp2_with fail
  obtain ⟨w2, hw2⟩ : ∃ W, W = w1.alloc (.cells #[.int .i64 (m.wd (2 * l)), .int .i64 (m.wd (2 * l + 1))] 26) := ⟨_, rfl⟩
  have hrg : Below w1.heap.size w1 w2 := by rw [hw2]; exact ext_alloc _ (Below.refl _ _)
  have hpa : w2.heap[w1.heap.size]? = some (.cells #[.int .i64 (m.wd (2 * l)), .int .i64 (m.wd (2 * l + 1))] 26 (0, 0)) := by rw [hw2]; exact alNew rfl
  have HPa := Lib.hid hpa
  clear hpa
  rw [← hw2]
  clear hw2
  have HM2 := Lib.hid (HM1.out.ext hrg)
  have HR2 := Lib.hid (HR1.out.ext hrg)
  have HO2 := Lib.hid (HO1.out.trans (Ou.of_below hrg))
  have hx := (hrg.block _ (lt_of HX1.out)).trans HX1.out
  have HL2 := Lib.hid (HL1.out.ext hrg)
  have HX2 := Lib.hid hx
  clear x0 x1 x2 x3 x4 xl
  obtain ⟨x0, x1, x2, x3, x4, xl⟩ := five_at hx
  clear hx hrg
  refine (rread02_ok HR2.out l HLL.out).mono ?_
  rintro e w3 ⟨rfl, hm, hrg⟩
  have HR3 := Lib.hid hm
  have HM3 := Lib.hid (HM2.out.rg hrg HSZ.out.2.2.2.1)
  have HO3 := Lib.hid (HO2.out.trans (Ou.of_rg hrg (fun k h1 h2 => .inr ⟨h1, h2⟩)))
  have hp := (hrg.block _ (lt_of HPa.out) (.inr hs1r.1)).trans HPa.out; have HPb := Lib.hid hp; clear hp; have hx := (hrg.block _ (lt_of HX2.out) (.inr HSZ.out.2.1.1)).trans HX2.out
  have HL3 := Lib.hid (HL2.out.keepR hrg HSZ.out.2.2.2.2)
  have HX3 := Lib.hid hx
  clear x0 x1 x2 x3 x4 xl
  obtain ⟨x0, x1, x2, x3, x4, xl⟩ := five_at hx
  clear hx hrg hm
  obtain ⟨z0, z1, _, _, zl⟩ := pair_at HPb.out
  have hE : ∀ wx, (binOp .eql 26 (.agg #[.int .i64 (m.wd (2 * l)), .int .i64 (m.wd (2 * l + 1))]) (.agg #[.int .i64 (m.wd (2 * l)), .int .i64 (m.wd (2 * l + 1))])).run Tryd.prog wx = .ok (.bool true) wx := fun wx => by rw [eqLineV]; simp
  go_wp2_with fail
  refine (err02_yes _).mono ?_
  rintro e w9 ⟨rfl, rfl⟩
  go_wp2_with fail
  go_ret
  have hb9 := ext_alloc (.cells #[.int .i64 (m.wd (2 * l)), .int .i64 (m.wd (2 * l + 1))] 25) (Below.refl w3.heap.size w3)
  exact ⟨rfl, ⟨HM3.out.ext hb9, HR3.out.ext hb9, H.out.d, H.out.gl⟩, HO3.out.trans (Ou.of_below hb9)⟩

set_option maxHeartbeats 4000000 in
theorem d02_read_no0 {w : World} {lo hi p lo' hi' p' : Nat} {m : Mm} (h : Bo w lo hi p lo' hi' p' m) (hL : Lims w) (x : Int) (hx : x < 0) (v a b : Int) :
    Calls Tryd.prog 14 #[.pointer (some ⟨p, 0, none⟩), .pointer (some ⟨p', 0, none⟩), .agg #[.int .i64 0, .int .i64 x, .int .i64 v, .int .i64 a, .int .i64 b]] w fun e w' => e = .returned (.bool true) ∧ Bo w' lo hi p lo' hi' p' m ∧ Ou (In2 lo hi lo' hi') w w' := by
  have H := Lib.hid h
  have HL := Lib.hid hL
  have HSZ := Lib.hid (And.intro h.b.sz (And.intro h.r.sz (And.intro h.b.gl (And.intro h.d h.gl))))
  obtain ⟨q, cap, hrk⟩ := h.r
  obtain ⟨k0, _⟩ := hrk.sl
  obtain ⟨hpl, hql⟩ := hrk.lt
  have HRK := Lib.hid hrk
  have hn32 := m.n_le
  have e0 : decide (x ≥ 0) = false := by simpa using hx
  have HX := Lib.hid (show x < 0 ∨ (m.n : Int) ≤ x from .inl hx)
  clear hx
  clear h hL hrk hn32
  generalize hN2 : 2 * m.n = N2 at *
  have HN2 := Lib.hid hN2
  clear hN2
  go_enter Tryd.func14, Tryd.ntmps14
  go_wp2_with fail
  refine region_past (by kernel_rfl) (by kernel_rfl) ?_; (repeat (go_big_quiet_step (fail))); refine wpQuiet_nil ?_; rintro _ ⟨pw, rfl⟩
  have hb0 : Below w.heap.size w pw.val := ext_past pw (ext_alloc _ (Below.refl _ _))
  have hx0 := (pw.below.block w.heap.size (by simp)).trans (alNew rfl)
  generalize pw.val = W0 at hb0 hx0 ⊢
  have HX0 := Lib.hid hx0
  have HM0 := Lib.hid (H.out.b.ext hb0)
  have HR0 := Lib.hid (H.out.r.ext hb0)
  have HO0 := Lib.hid (Ou.of_below (X := In2 lo hi lo' hi') hb0)
  have HL0 := Lib.hid (HL.out.ext hb0)
  obtain ⟨x0, x1, x2, x3, x4, xl⟩ := five_at hx0
  have hrk0 := HRK.out.ext hb0
  obtain ⟨k0, _⟩ := hrk0.sl
  obtain ⟨hpl, hql⟩ := hrk0.lt
  have HRK0 := Lib.hid hrk0
  rw [HN2.out] at k0
  clear hb0 hx0 hrk0
  clear k0 hpl hql
  go_wp2_with fail
  refine (bread_no HM0.out HL0.out x HX.out).mono ?_
  rintro e w1 ⟨rfl, hrg⟩
  have HM1 := Lib.hid (HM0.out.ext hrg)
  have HR1 := Lib.hid (HR0.out.ext hrg)
  have HO1 := Lib.hid (HO0.out.trans (Ou.of_below hrg))
  have hx := (hrg.block _ (lt_of HX0.out)).trans HX0.out
  have HL1 := Lib.hid (HL0.out.ext hrg)
  have HX1 := Lib.hid hx
  clear x0 x1 x2 x3 x4 xl
  obtain ⟨x0, x1, x2, x3, x4, xl⟩ := five_at hx
  clear hx hrg
  go_wp2_with fail
  obtain ⟨w2, hw2⟩ : ∃ W, W = w1.alloc (.cells #[.int .i64 0, .int .i64 0] 26) := ⟨_, rfl⟩
  have hrg : Below w1.heap.size w1 w2 := by rw [hw2]; exact ext_alloc _ (Below.refl _ _)
  have hpa : w2.heap[w1.heap.size]? = some (.cells #[.int .i64 0, .int .i64 0] 26 (0, 0)) := by rw [hw2]; exact alNew rfl
  have HPa := Lib.hid hpa
  clear hpa
  rw [← hw2]
  clear hw2
  have HM2 := Lib.hid (HM1.out.ext hrg)
  have HR2 := Lib.hid (HR1.out.ext hrg)
  have HO2 := Lib.hid (HO1.out.trans (Ou.of_below hrg))
  have hx := (hrg.block _ (lt_of HX1.out)).trans HX1.out
  have HL2 := Lib.hid (HL1.out.ext hrg)
  have HX2 := Lib.hid hx
  clear x0 x1 x2 x3 x4 xl
  obtain ⟨x0, x1, x2, x3, x4, xl⟩ := five_at hx
  clear hx hrg
  refine (rread02_no HR2.out x HX.out).mono ?_
  rintro e w3 ⟨rfl, hrg⟩
  have HM3 := Lib.hid (HM2.out.ext hrg)
  have HR3 := Lib.hid (HR2.out.ext hrg)
  have HO3 := Lib.hid (HO2.out.trans (Ou.of_below hrg))
  have hp := (hrg.block _ (lt_of HPa.out)).trans HPa.out; have HPb := Lib.hid hp; clear hp; have hx := (hrg.block _ (lt_of HX2.out)).trans HX2.out
  have HL3 := Lib.hid (HL2.out.ext hrg)
  have HX3 := Lib.hid hx
  clear x0 x1 x2 x3 x4 xl
  obtain ⟨x0, x1, x2, x3, x4, xl⟩ := five_at hx
  clear hx hrg
  obtain ⟨z0, z1, _, _, zl⟩ := pair_at HPb.out
  have hE : ∀ wx, (binOp .eql 26 (.agg #[.int .i64 0, .int .i64 0]) (.agg #[.int .i64 0, .int .i64 0])).run Tryd.prog wx = .ok (.bool true) wx := fun wx => by rw [eqLineV]; simp
  go_wp2_with fail
  refine (err02_no _).mono ?_
  rintro e w9 ⟨rfl, rfl⟩
  go_wp2_with fail
  go_ret
  have hb9 := ext_alloc (.cells #[.int .i64 0, .int .i64 0] 25) (Below.refl w3.heap.size w3)
  exact ⟨rfl, ⟨HM3.out.ext hb9, HR3.out.ext hb9, H.out.d, H.out.gl⟩, HO3.out.trans (Ou.of_below hb9)⟩

set_option maxHeartbeats 4000000 in
theorem d02_read_no1 {w : World} {lo hi p lo' hi' p' : Nat} {m : Mm} (h : Bo w lo hi p lo' hi' p' m) (hL : Lims w) (x : Int) (hx : ¬ x < 0 ∧ (m.n : Int) ≤ x) (v a b : Int) :
    Calls Tryd.prog 14 #[.pointer (some ⟨p, 0, none⟩), .pointer (some ⟨p', 0, none⟩), .agg #[.int .i64 0, .int .i64 x, .int .i64 v, .int .i64 a, .int .i64 b]] w fun e w' => e = .returned (.bool true) ∧ Bo w' lo hi p lo' hi' p' m ∧ Ou (In2 lo hi lo' hi') w w' := by
  have H := Lib.hid h
  have HL := Lib.hid hL
  have HSZ := Lib.hid (And.intro h.b.sz (And.intro h.r.sz (And.intro h.b.gl (And.intro h.d h.gl))))
  obtain ⟨q, cap, hrk⟩ := h.r
  obtain ⟨k0, _⟩ := hrk.sl
  obtain ⟨hpl, hql⟩ := hrk.lt
  have HRK := Lib.hid hrk
  have hn32 := m.n_le
  have e0 : decide (x ≥ 0) = true := by simp; omega
  have HX := Lib.hid (show x < 0 ∨ (m.n : Int) ≤ x from .inr hx.2)
  clear hx
  clear h hL hrk hn32
  generalize hN2 : 2 * m.n = N2 at *
  have HN2 := Lib.hid hN2
  clear hN2
  go_enter Tryd.func14, Tryd.ntmps14
  go_wp2_with fail
  refine region_past (by kernel_rfl) (by kernel_rfl) ?_; (repeat (go_big_quiet_step (fail))); refine wpQuiet_nil ?_; rintro _ ⟨pw, rfl⟩
  have hb0 : Below w.heap.size w pw.val := ext_past pw (ext_alloc _ (Below.refl _ _))
  have hx0 := (pw.below.block w.heap.size (by simp)).trans (alNew rfl)
  generalize pw.val = W0 at hb0 hx0 ⊢
  have HX0 := Lib.hid hx0
  have HM0 := Lib.hid (H.out.b.ext hb0)
  have HR0 := Lib.hid (H.out.r.ext hb0)
  have HO0 := Lib.hid (Ou.of_below (X := In2 lo hi lo' hi') hb0)
  have HL0 := Lib.hid (HL.out.ext hb0)
  obtain ⟨x0, x1, x2, x3, x4, xl⟩ := five_at hx0
  have hrk0 := HRK.out.ext hb0
  obtain ⟨k0, _⟩ := hrk0.sl
  obtain ⟨hpl, hql⟩ := hrk0.lt
  have HRK0 := Lib.hid hrk0
  rw [HN2.out] at k0
  clear hb0 hx0 hrk0
  clear k0 hpl hql
  go_wp2_with fail
  refine (bread_no HM0.out HL0.out x HX.out).mono ?_
  rintro e w1 ⟨rfl, hrg⟩
  have HM1 := Lib.hid (HM0.out.ext hrg)
  have HR1 := Lib.hid (HR0.out.ext hrg)
  have HO1 := Lib.hid (HO0.out.trans (Ou.of_below hrg))
  have hx := (hrg.block _ (lt_of HX0.out)).trans HX0.out
  have HL1 := Lib.hid (HL0.out.ext hrg)
  have HX1 := Lib.hid hx
  clear x0 x1 x2 x3 x4 xl
  obtain ⟨x0, x1, x2, x3, x4, xl⟩ := five_at hx
  clear hx hrg
  go_wp2_with fail
  obtain ⟨w2, hw2⟩ : ∃ W, W = w1.alloc (.cells #[.int .i64 0, .int .i64 0] 26) := ⟨_, rfl⟩
  have hrg : Below w1.heap.size w1 w2 := by rw [hw2]; exact ext_alloc _ (Below.refl _ _)
  have hpa : w2.heap[w1.heap.size]? = some (.cells #[.int .i64 0, .int .i64 0] 26 (0, 0)) := by rw [hw2]; exact alNew rfl
  have HPa := Lib.hid hpa
  clear hpa
  rw [← hw2]
  clear hw2
  have HM2 := Lib.hid (HM1.out.ext hrg)
  have HR2 := Lib.hid (HR1.out.ext hrg)
  have HO2 := Lib.hid (HO1.out.trans (Ou.of_below hrg))
  have hx := (hrg.block _ (lt_of HX1.out)).trans HX1.out
  have HL2 := Lib.hid (HL1.out.ext hrg)
  have HX2 := Lib.hid hx
  clear x0 x1 x2 x3 x4 xl
  obtain ⟨x0, x1, x2, x3, x4, xl⟩ := five_at hx
  clear hx hrg
  refine (rread02_no HR2.out x HX.out).mono ?_
  rintro e w3 ⟨rfl, hrg⟩
  have HM3 := Lib.hid (HM2.out.ext hrg)
  have HR3 := Lib.hid (HR2.out.ext hrg)
  have HO3 := Lib.hid (HO2.out.trans (Ou.of_below hrg))
  have hp := (hrg.block _ (lt_of HPa.out)).trans HPa.out; have HPb := Lib.hid hp; clear hp; have hx := (hrg.block _ (lt_of HX2.out)).trans HX2.out
  have HL3 := Lib.hid (HL2.out.ext hrg)
  have HX3 := Lib.hid hx
  clear x0 x1 x2 x3 x4 xl
  obtain ⟨x0, x1, x2, x3, x4, xl⟩ := five_at hx
  clear hx hrg
  obtain ⟨z0, z1, _, _, zl⟩ := pair_at HPb.out
  have hE : ∀ wx, (binOp .eql 26 (.agg #[.int .i64 0, .int .i64 0]) (.agg #[.int .i64 0, .int .i64 0])).run Tryd.prog wx = .ok (.bool true) wx := fun wx => by rw [eqLineV]; simp
  go_wp2_with fail
  refine (err02_no _).mono ?_
  rintro e w9 ⟨rfl, rfl⟩
  go_wp2_with fail
  go_ret
  have hb9 := ext_alloc (.cells #[.int .i64 0, .int .i64 0] 25) (Below.refl w3.heap.size w3)
  exact ⟨rfl, ⟨HM3.out.ext hb9, HR3.out.ext hb9, H.out.d, H.out.gl⟩, HO3.out.trans (Ou.of_below hb9)⟩

set_option maxHeartbeats 4000000 in
theorem d02_write_ok {w : World} {lo hi p lo' hi' p' : Nat} {m : Mm} (h : Bo w lo hi p lo' hi' p' m) (hL : Lims w) (l : Nat) (hl : l < m.n) (v a b : Int) :
    Calls Tryd.prog 14 #[.pointer (some ⟨p, 0, none⟩), .pointer (some ⟨p', 0, none⟩), .agg #[.int .i64 1, .int .i64 l, .int .i64 v, .int .i64 a, .int .i64 b]] w fun e w' => e = .returned (.bool true) ∧ Bo w' lo hi p lo' hi' p' (m.put l a b) ∧ Ou (In2 lo hi lo' hi') w w' := by
  have H := Lib.hid h
  have HL := Lib.hid hL
  have HSZ := Lib.hid (And.intro h.b.sz (And.intro h.r.sz (And.intro h.b.gl (And.intro h.d h.gl))))
  obtain ⟨q, cap, hrk⟩ := h.r
  obtain ⟨k0, _⟩ := hrk.sl
  obtain ⟨hpl, hql⟩ := hrk.lt
  have HRK := Lib.hid hrk
  have hn32 := m.n_le
  have e0 : decide ((l : Int) ≥ 0) = true := by simp
  have HLL := Lib.hid hl
  clear hl
  clear h hL hrk hn32
  generalize hN2 : 2 * m.n = N2 at *
  have HN2 := Lib.hid hN2
  clear hN2
  go_enter Tryd.func14, Tryd.ntmps14
  go_wp2_with fail
  refine region_past (by kernel_rfl) (by kernel_rfl) ?_; (repeat (go_big_quiet_step (fail))); refine wpQuiet_nil ?_; rintro _ ⟨pw, rfl⟩
  have hb0 : Below w.heap.size w pw.val := ext_past pw (ext_alloc _ (Below.refl _ _))
  have hx0 := (pw.below.block w.heap.size (by simp)).trans (alNew rfl)
  generalize pw.val = W0 at hb0 hx0 ⊢
  have HX0 := Lib.hid hx0
  have HM0 := Lib.hid (H.out.b.ext hb0)
  have HR0 := Lib.hid (H.out.r.ext hb0)
  have HO0 := Lib.hid (Ou.of_below (X := In2 lo hi lo' hi') hb0)
  have HL0 := Lib.hid (HL.out.ext hb0)
  obtain ⟨x0, x1, x2, x3, x4, xl⟩ := five_at hx0
  have hrk0 := HRK.out.ext hb0
  obtain ⟨k0, _⟩ := hrk0.sl
  obtain ⟨hpl, hql⟩ := hrk0.lt
  have HRK0 := Lib.hid hrk0
  rw [HN2.out] at k0
  clear hb0 hx0 hrk0
  clear k0 hpl hql
  go_wp2_with fail
  have HX0 := Lib.hid (show W0.drew.heap[w.heap.size]? = _ from HX0.out)
  have HM0 := Lib.hid (HM0.out.ext (ext_drew (Below.refl _ _)))
  have HR0 := Lib.hid (HR0.out.ext (ext_drew (Below.refl _ _)))
  have HO0 := Lib.hid (HO0.out.trans (Ou.of_below (ext_drew (Below.refl _ _))))
  have HL0 := Lib.hid (HL0.out.ext (ext_drew (Below.refl _ _)))
  clear x0 x1 x2 x3 x4
  have QQ := five_at HX0.out
  go_region_held3 (fun w' => w'.cell? ⟨w.heap.size, 1, none⟩ = some (.int .i64 l) ∧ w'.cell? ⟨w.heap.size, 3, none⟩ = some (.int .i64 a) ∧ w'.cell? ⟨w.heap.size, 4, none⟩ = some (.int .i64 b))
    (first | exact ⟨QQ.2.1, QQ.2.2.2.1, QQ.2.2.2.2.1⟩)
    (first
      | (go_at_call 16; refine (bwrite_ok HM0.out HL0.out l HLL.out a b).mono ?_; rintro e w1 ⟨rfl, hm, hrg⟩; have HM1 := Lib.hid hm; have HR1 := Lib.hid (HR0.out.rg hrg HSZ.out.2.2.2.1.symm); have HO1 := Lib.hid (HO0.out.trans (Ou.of_rg hrg (fun k h1 h2 => .inl ⟨h1, h2⟩))); have hx := (hrg.block _ (lt_of HX0.out) (.inr HSZ.out.1.1)).trans HX0.out; have HL1 := Lib.hid (HL0.out.keepR hrg HSZ.out.2.2.1); have HX1 := Lib.hid hx; have QQ := five_at hx; have xl := lt_of hx; clear hx hrg hm)
      | (go_at_call 61; refine (rwrite02_ok HR1.out l HLL.out a b).mono ?_; rintro e w2 ⟨rfl, hm, hrg⟩; have HR2 := Lib.hid hm; have HM2 := Lib.hid (HM1.out.rg hrg HSZ.out.2.2.2.1); have HO2 := Lib.hid (HO1.out.trans (Ou.of_rg hrg (fun k h1 h2 => .inr ⟨h1, h2⟩))); have hx := (hrg.block _ (lt_of HX1.out) (.inr HSZ.out.2.1.1)).trans HX1.out; have HL2 := Lib.hid (HL1.out.keepR hrg HSZ.out.2.2.2.2); have HX2 := Lib.hid hx; have QQ := five_at hx; have xl := lt_of hx; clear hx hrg hm)
      | (go_at_call 60; refine (err02_yes _).mono ?_; rintro e w9 ⟨rfl, rfl⟩))
  go_wp2_with fail
  go_ret
  exact ⟨rfl, ⟨HM2.out, HR2.out, H.out.d, H.out.gl⟩, HO2.out⟩

set_option maxHeartbeats 4000000 in
theorem d02_write_no0 {w : World} {lo hi p lo' hi' p' : Nat} {m : Mm} (h : Bo w lo hi p lo' hi' p' m) (hL : Lims w) (x : Int) (hx : x < 0) (v a b : Int) :
    Calls Tryd.prog 14 #[.pointer (some ⟨p, 0, none⟩), .pointer (some ⟨p', 0, none⟩), .agg #[.int .i64 1, .int .i64 x, .int .i64 v, .int .i64 a, .int .i64 b]] w fun e w' => e = .returned (.bool true) ∧ Bo w' lo hi p lo' hi' p' m ∧ Ou (In2 lo hi lo' hi') w w' := by
  have H := Lib.hid h
  have HL := Lib.hid hL
  have HSZ := Lib.hid (And.intro h.b.sz (And.intro h.r.sz (And.intro h.b.gl (And.intro h.d h.gl))))
  obtain ⟨q, cap, hrk⟩ := h.r
  obtain ⟨k0, _⟩ := hrk.sl
  obtain ⟨hpl, hql⟩ := hrk.lt
  have HRK := Lib.hid hrk
  have hn32 := m.n_le
  have e0 : decide (x ≥ 0) = false := by simpa using hx
  have HX := Lib.hid (show x < 0 ∨ (m.n : Int) ≤ x from .inl hx)
  clear hx
  clear h hL hrk hn32
  generalize hN2 : 2 * m.n = N2 at *
  have HN2 := Lib.hid hN2
  clear hN2
  go_enter Tryd.func14, Tryd.ntmps14
  go_wp2_with fail
  refine region_past (by kernel_rfl) (by kernel_rfl) ?_; (repeat (go_big_quiet_step (fail))); refine wpQuiet_nil ?_; rintro _ ⟨pw, rfl⟩
  have hb0 : Below w.heap.size w pw.val := ext_past pw (ext_alloc _ (Below.refl _ _))
  have hx0 := (pw.below.block w.heap.size (by simp)).trans (alNew rfl)
  generalize pw.val = W0 at hb0 hx0 ⊢
  have HX0 := Lib.hid hx0
  have HM0 := Lib.hid (H.out.b.ext hb0)
  have HR0 := Lib.hid (H.out.r.ext hb0)
  have HO0 := Lib.hid (Ou.of_below (X := In2 lo hi lo' hi') hb0)
  have HL0 := Lib.hid (HL.out.ext hb0)
  obtain ⟨x0, x1, x2, x3, x4, xl⟩ := five_at hx0
  have hrk0 := HRK.out.ext hb0
  obtain ⟨k0, _⟩ := hrk0.sl
  obtain ⟨hpl, hql⟩ := hrk0.lt
  have HRK0 := Lib.hid hrk0
  rw [HN2.out] at k0
  clear hb0 hx0 hrk0
  clear k0 hpl hql
  go_wp2_with fail
  have HX0 := Lib.hid (show W0.drew.heap[w.heap.size]? = _ from HX0.out)
  have HM0 := Lib.hid (HM0.out.ext (ext_drew (Below.refl _ _)))
  have HR0 := Lib.hid (HR0.out.ext (ext_drew (Below.refl _ _)))
  have HO0 := Lib.hid (HO0.out.trans (Ou.of_below (ext_drew (Below.refl _ _))))
  have HL0 := Lib.hid (HL0.out.ext (ext_drew (Below.refl _ _)))
  clear x0 x1 x2 x3 x4
  have QQ := five_at HX0.out
  go_region_held3 (fun w' => w'.cell? ⟨w.heap.size, 1, none⟩ = some (.int .i64 x) ∧ w'.cell? ⟨w.heap.size, 3, none⟩ = some (.int .i64 a) ∧ w'.cell? ⟨w.heap.size, 4, none⟩ = some (.int .i64 b))
    (first | exact ⟨QQ.2.1, QQ.2.2.2.1, QQ.2.2.2.2.1⟩)
    (first
      | (go_at_call 16; refine (bwrite_no HM0.out HL0.out x a b HX.out).mono ?_; rintro e w1 ⟨rfl, hrg⟩; have HM1 := Lib.hid (HM0.out.ext hrg); have HR1 := Lib.hid (HR0.out.ext hrg); have HO1 := Lib.hid (HO0.out.trans (Ou.of_below hrg)); have hx := (hrg.block _ (lt_of HX0.out)).trans HX0.out; have HL1 := Lib.hid (HL0.out.ext hrg); have HX1 := Lib.hid hx; have QQ := five_at hx; have xl := lt_of hx; clear hx hrg)
      | (go_at_call 61; refine (rwrite02_no HR1.out x a b HX.out).mono ?_; rintro e w2 ⟨rfl, hrg⟩; have HM2 := Lib.hid (HM1.out.ext hrg); have HR2 := Lib.hid (HR1.out.ext hrg); have HO2 := Lib.hid (HO1.out.trans (Ou.of_below hrg)); have hx := (hrg.block _ (lt_of HX1.out)).trans HX1.out; have HL2 := Lib.hid (HL1.out.ext hrg); have HX2 := Lib.hid hx; have QQ := five_at hx; have xl := lt_of hx; clear hx hrg)
      | (go_at_call 60; refine (err02_no _).mono ?_; rintro e w9 ⟨rfl, rfl⟩))
  go_wp2_with fail
  go_ret
  exact ⟨rfl, ⟨HM2.out, HR2.out, H.out.d, H.out.gl⟩, HO2.out⟩

set_option maxHeartbeats 4000000 in
theorem d02_write_no1 {w : World} {lo hi p lo' hi' p' : Nat} {m : Mm} (h : Bo w lo hi p lo' hi' p' m) (hL : Lims w) (x : Int) (hx : ¬ x < 0 ∧ (m.n : Int) ≤ x) (v a b : Int) :
    Calls Tryd.prog 14 #[.pointer (some ⟨p, 0, none⟩), .pointer (some ⟨p', 0, none⟩), .agg #[.int .i64 1, .int .i64 x, .int .i64 v, .int .i64 a, .int .i64 b]] w fun e w' => e = .returned (.bool true) ∧ Bo w' lo hi p lo' hi' p' m ∧ Ou (In2 lo hi lo' hi') w w' := by
  have H := Lib.hid h
  have HL := Lib.hid hL
  have HSZ := Lib.hid (And.intro h.b.sz (And.intro h.r.sz (And.intro h.b.gl (And.intro h.d h.gl))))
  obtain ⟨q, cap, hrk⟩ := h.r
  obtain ⟨k0, _⟩ := hrk.sl
  obtain ⟨hpl, hql⟩ := hrk.lt
  have HRK := Lib.hid hrk
  have hn32 := m.n_le
  have e0 : decide (x ≥ 0) = true := by simp; omega
  have HX := Lib.hid (show x < 0 ∨ (m.n : Int) ≤ x from .inr hx.2)
  clear hx
  clear h hL hrk hn32
  generalize hN2 : 2 * m.n = N2 at *
  have HN2 := Lib.hid hN2
  clear hN2
  go_enter Tryd.func14, Tryd.ntmps14
  go_wp2_with fail
  refine region_past (by kernel_rfl) (by kernel_rfl) ?_; (repeat (go_big_quiet_step (fail))); refine wpQuiet_nil ?_; rintro _ ⟨pw, rfl⟩
  have hb0 : Below w.heap.size w pw.val := ext_past pw (ext_alloc _ (Below.refl _ _))
  have hx0 := (pw.below.block w.heap.size (by simp)).trans (alNew rfl)
  generalize pw.val = W0 at hb0 hx0 ⊢
  have HX0 := Lib.hid hx0
  have HM0 := Lib.hid (H.out.b.ext hb0)
  have HR0 := Lib.hid (H.out.r.ext hb0)
  have HO0 := Lib.hid (Ou.of_below (X := In2 lo hi lo' hi') hb0)
  have HL0 := Lib.hid (HL.out.ext hb0)
  obtain ⟨x0, x1, x2, x3, x4, xl⟩ := five_at hx0
  have hrk0 := HRK.out.ext hb0
  obtain ⟨k0, _⟩ := hrk0.sl
  obtain ⟨hpl, hql⟩ := hrk0.lt
  have HRK0 := Lib.hid hrk0
  rw [HN2.out] at k0
  clear hb0 hx0 hrk0
  clear k0 hpl hql
  go_wp2_with fail
  have HX0 := Lib.hid (show W0.drew.heap[w.heap.size]? = _ from HX0.out)
  have HM0 := Lib.hid (HM0.out.ext (ext_drew (Below.refl _ _)))
  have HR0 := Lib.hid (HR0.out.ext (ext_drew (Below.refl _ _)))
  have HO0 := Lib.hid (HO0.out.trans (Ou.of_below (ext_drew (Below.refl _ _))))
  have HL0 := Lib.hid (HL0.out.ext (ext_drew (Below.refl _ _)))
  clear x0 x1 x2 x3 x4
  have QQ := five_at HX0.out
  go_region_held3 (fun w' => w'.cell? ⟨w.heap.size, 1, none⟩ = some (.int .i64 x) ∧ w'.cell? ⟨w.heap.size, 3, none⟩ = some (.int .i64 a) ∧ w'.cell? ⟨w.heap.size, 4, none⟩ = some (.int .i64 b))
    (first | exact ⟨QQ.2.1, QQ.2.2.2.1, QQ.2.2.2.2.1⟩)
    (first
      | (go_at_call 16; refine (bwrite_no HM0.out HL0.out x a b HX.out).mono ?_; rintro e w1 ⟨rfl, hrg⟩; have HM1 := Lib.hid (HM0.out.ext hrg); have HR1 := Lib.hid (HR0.out.ext hrg); have HO1 := Lib.hid (HO0.out.trans (Ou.of_below hrg)); have hx := (hrg.block _ (lt_of HX0.out)).trans HX0.out; have HL1 := Lib.hid (HL0.out.ext hrg); have HX1 := Lib.hid hx; have QQ := five_at hx; have xl := lt_of hx; clear hx hrg)
      | (go_at_call 61; refine (rwrite02_no HR1.out x a b HX.out).mono ?_; rintro e w2 ⟨rfl, hrg⟩; have HM2 := Lib.hid (HM1.out.ext hrg); have HR2 := Lib.hid (HR1.out.ext hrg); have HO2 := Lib.hid (HO1.out.trans (Ou.of_below hrg)); have hx := (hrg.block _ (lt_of HX1.out)).trans HX1.out; have HL2 := Lib.hid (HL1.out.ext hrg); have HX2 := Lib.hid hx; have QQ := five_at hx; have xl := lt_of hx; clear hx hrg)
      | (go_at_call 60; refine (err02_no _).mono ?_; rintro e w9 ⟨rfl, rfl⟩))
  go_wp2_with fail
  go_ret
  exact ⟨rfl, ⟨HM2.out, HR2.out, H.out.d, H.out.gl⟩, HO2.out⟩

set_option maxHeartbeats 4000000 in
theorem d02_scrub_ok {w : World} {lo hi p lo' hi' p' : Nat} {m : Mm} (h : Bo w lo hi p lo' hi' p' m) (hL : Lims w) (ask : Int) (hask : ask ≠ 0 ∧ ask ≠ 1 ∧ ask ≠ 2 ∧ ask ≠ 3) (g : Nat) (hg : (g : Int) < m.c.gr) (v a b : Int) :
    Calls Tryd.prog 14 #[.pointer (some ⟨p, 0, none⟩), .pointer (some ⟨p', 0, none⟩), .agg #[.int .i64 ask, .int .i64 g, .int .i64 v, .int .i64 a, .int .i64 b]] w fun e w' => e = .returned (.bool true) ∧ Bo w' lo hi p lo' hi' p' ((m.put (2 * g) 0 0).put (2 * g + 1) 0 0) ∧ Ou (In2 lo hi lo' hi') w w' := by
  have H := Lib.hid h
  have HL := Lib.hid hL
  have HSZ := Lib.hid (And.intro h.b.sz (And.intro h.r.sz (And.intro h.b.gl (And.intro h.d h.gl))))
  obtain ⟨q, cap, hrk⟩ := h.r
  obtain ⟨k0, _⟩ := hrk.sl
  obtain ⟨hpl, hql⟩ := hrk.lt
  have HRK := Lib.hid hrk
  have hn32 := m.n_le
  have a0 : (ask == 0) = false := by rw [beq_eq_false_iff_ne]; omega
  have a1 : (ask == 1) = false := by rw [beq_eq_false_iff_ne]; omega
  have a2 : (ask == 2) = false := by rw [beq_eq_false_iff_ne]; omega
  have a3 : (ask == 3) = false := by rw [beq_eq_false_iff_ne]; omega
  clear hask
  have e0 : decide ((g : Int) ≥ 0) = true := by simp
  have HZ := Lib.hid (zeros_two h.b.ok g hg)
  have HG := Lib.hid (And.intro (show (0 : Int) ≤ g by omega) hg)
  clear hg
  clear h hL hrk hn32
  generalize hN2 : 2 * m.n = N2 at *
  have HN2 := Lib.hid hN2
  clear hN2
  go_enter Tryd.func14, Tryd.ntmps14
  go_wp2_with fail
  refine region_past (by kernel_rfl) (by kernel_rfl) ?_; (repeat (go_big_quiet_step (fail))); refine wpQuiet_nil ?_; rintro _ ⟨pw, rfl⟩
  have hb0 : Below w.heap.size w pw.val := ext_past pw (ext_alloc _ (Below.refl _ _))
  have hx0 := (pw.below.block w.heap.size (by simp)).trans (alNew rfl)
  generalize pw.val = W0 at hb0 hx0 ⊢
  have HX0 := Lib.hid hx0
  have HM0 := Lib.hid (H.out.b.ext hb0)
  have HR0 := Lib.hid (H.out.r.ext hb0)
  have HO0 := Lib.hid (Ou.of_below (X := In2 lo hi lo' hi') hb0)
  have HL0 := Lib.hid (HL.out.ext hb0)
  obtain ⟨x0, x1, x2, x3, x4, xl⟩ := five_at hx0
  have hrk0 := HRK.out.ext hb0
  obtain ⟨k0, _⟩ := hrk0.sl
  obtain ⟨hpl, hql⟩ := hrk0.lt
  have HRK0 := Lib.hid hrk0
  rw [HN2.out] at k0
  clear hb0 hx0 hrk0
  clear k0 hpl hql
  go_wp2_with fail
  have HX0 := Lib.hid (show W0.drew.heap[w.heap.size]? = _ from HX0.out)
  have HM0 := Lib.hid (HM0.out.ext (ext_drew (Below.refl _ _)))
  have HR0 := Lib.hid (HR0.out.ext (ext_drew (Below.refl _ _)))
  have HO0 := Lib.hid (HO0.out.trans (Ou.of_below (ext_drew (Below.refl _ _))))
  have HL0 := Lib.hid (HL0.out.ext (ext_drew (Below.refl _ _)))
  clear x0 x1 x2 x3 x4
  have QQ := five_at HX0.out
  go_region_held3 (fun w' => w'.cell? ⟨w.heap.size, 1, none⟩ = some (.int .i64 g))
    (first | exact QQ.2.1)
    (first
      | (go_at_call 25; refine (bscrub_ok HM0.out HL0.out g HG.out.1 HG.out.2).mono ?_; rintro e w1 ⟨rfl, hm, hrg⟩; have HM1 := Lib.hid hm; have HR1 := Lib.hid (HR0.out.rg hrg HSZ.out.2.2.2.1.symm); have HO1 := Lib.hid (HO0.out.trans (Ou.of_rg hrg (fun k h1 h2 => .inl ⟨h1, h2⟩))); have hx := (hrg.block _ (lt_of HX0.out) (.inr HSZ.out.1.1)).trans HX0.out; have HL1 := Lib.hid (HL0.out.keepR hrg HSZ.out.2.2.1); have HX1 := Lib.hid hx; have QQ := five_at hx; have xl := lt_of hx; clear hx hrg hm)
      | (go_at_call 62; refine (rscrub02_ok HR1.out g HG.out.2).mono ?_; rintro e w2 ⟨rfl, hm, hrg⟩; have HR2 := Lib.hid hm; have HM2 := Lib.hid (HM1.out.rg hrg HSZ.out.2.2.2.1); have HO2 := Lib.hid (HO1.out.trans (Ou.of_rg hrg (fun k h1 h2 => .inr ⟨h1, h2⟩))); have hx := (hrg.block _ (lt_of HX1.out) (.inr HSZ.out.2.1.1)).trans HX1.out; have HL2 := Lib.hid (HL1.out.keepR hrg HSZ.out.2.2.2.2); have HX2 := Lib.hid hx; have QQ := five_at hx; have xl := lt_of hx; clear hx hrg hm)
      | (go_at_call 60; refine (err02_yes _).mono ?_; rintro e w9 ⟨rfl, rfl⟩))
  go_wp2_with fail
  go_ret
  have hm2 := HM2.out
  rw [HZ.out] at hm2
  exact ⟨rfl, ⟨hm2, HR2.out, H.out.d, H.out.gl⟩, HO2.out⟩

set_option maxHeartbeats 4000000 in
theorem d02_scrub_no0 {w : World} {lo hi p lo' hi' p' : Nat} {m : Mm} (h : Bo w lo hi p lo' hi' p' m) (hL : Lims w) (ask : Int) (hask : ask ≠ 0 ∧ ask ≠ 1 ∧ ask ≠ 2 ∧ ask ≠ 3) (x : Int) (hx : x < 0) (v a b : Int) :
    Calls Tryd.prog 14 #[.pointer (some ⟨p, 0, none⟩), .pointer (some ⟨p', 0, none⟩), .agg #[.int .i64 ask, .int .i64 x, .int .i64 v, .int .i64 a, .int .i64 b]] w fun e w' => e = .returned (.bool true) ∧ Bo w' lo hi p lo' hi' p' m ∧ Ou (In2 lo hi lo' hi') w w' := by
  have H := Lib.hid h
  have HL := Lib.hid hL
  have HSZ := Lib.hid (And.intro h.b.sz (And.intro h.r.sz (And.intro h.b.gl (And.intro h.d h.gl))))
  obtain ⟨q, cap, hrk⟩ := h.r
  obtain ⟨k0, _⟩ := hrk.sl
  obtain ⟨hpl, hql⟩ := hrk.lt
  have HRK := Lib.hid hrk
  have hn32 := m.n_le
  have a0 : (ask == 0) = false := by rw [beq_eq_false_iff_ne]; omega
  have a1 : (ask == 1) = false := by rw [beq_eq_false_iff_ne]; omega
  have a2 : (ask == 2) = false := by rw [beq_eq_false_iff_ne]; omega
  have a3 : (ask == 3) = false := by rw [beq_eq_false_iff_ne]; omega
  clear hask
  have e0 : decide (x ≥ 0) = false := by simpa using hx
  have HX := Lib.hid (show x < 0 ∨ m.c.gr ≤ x from .inl hx)
  clear hx
  clear h hL hrk hn32
  generalize hN2 : 2 * m.n = N2 at *
  have HN2 := Lib.hid hN2
  clear hN2
  go_enter Tryd.func14, Tryd.ntmps14
  go_wp2_with fail
  refine region_past (by kernel_rfl) (by kernel_rfl) ?_; (repeat (go_big_quiet_step (fail))); refine wpQuiet_nil ?_; rintro _ ⟨pw, rfl⟩
  have hb0 : Below w.heap.size w pw.val := ext_past pw (ext_alloc _ (Below.refl _ _))
  have hx0 := (pw.below.block w.heap.size (by simp)).trans (alNew rfl)
  generalize pw.val = W0 at hb0 hx0 ⊢
  have HX0 := Lib.hid hx0
  have HM0 := Lib.hid (H.out.b.ext hb0)
  have HR0 := Lib.hid (H.out.r.ext hb0)
  have HO0 := Lib.hid (Ou.of_below (X := In2 lo hi lo' hi') hb0)
  have HL0 := Lib.hid (HL.out.ext hb0)
  obtain ⟨x0, x1, x2, x3, x4, xl⟩ := five_at hx0
  have hrk0 := HRK.out.ext hb0
  obtain ⟨k0, _⟩ := hrk0.sl
  obtain ⟨hpl, hql⟩ := hrk0.lt
  have HRK0 := Lib.hid hrk0
  rw [HN2.out] at k0
  clear hb0 hx0 hrk0
  clear k0 hpl hql
  go_wp2_with fail
  have HX0 := Lib.hid (show W0.drew.heap[w.heap.size]? = _ from HX0.out)
  have HM0 := Lib.hid (HM0.out.ext (ext_drew (Below.refl _ _)))
  have HR0 := Lib.hid (HR0.out.ext (ext_drew (Below.refl _ _)))
  have HO0 := Lib.hid (HO0.out.trans (Ou.of_below (ext_drew (Below.refl _ _))))
  have HL0 := Lib.hid (HL0.out.ext (ext_drew (Below.refl _ _)))
  clear x0 x1 x2 x3 x4
  have QQ := five_at HX0.out
  go_region_held3 (fun w' => w'.cell? ⟨w.heap.size, 1, none⟩ = some (.int .i64 x))
    (first | exact QQ.2.1)
    (first
      | (go_at_call 25; refine (bscrub_no HM0.out x HX.out).mono ?_; rintro e w1 ⟨rfl, hrg⟩; have HM1 := Lib.hid (HM0.out.ext hrg); have HR1 := Lib.hid (HR0.out.ext hrg); have HO1 := Lib.hid (HO0.out.trans (Ou.of_below hrg)); have hx := (hrg.block _ (lt_of HX0.out)).trans HX0.out; have HL1 := Lib.hid (HL0.out.ext hrg); have HX1 := Lib.hid hx; have QQ := five_at hx; have xl := lt_of hx; clear hx hrg)
      | (go_at_call 62; refine (rscrub02_no HR1.out x HX.out).mono ?_; rintro e w2 ⟨rfl, hrg⟩; have HM2 := Lib.hid (HM1.out.ext hrg); have HR2 := Lib.hid (HR1.out.ext hrg); have HO2 := Lib.hid (HO1.out.trans (Ou.of_below hrg)); have hx := (hrg.block _ (lt_of HX1.out)).trans HX1.out; have HL2 := Lib.hid (HL1.out.ext hrg); have HX2 := Lib.hid hx; have QQ := five_at hx; have xl := lt_of hx; clear hx hrg)
      | (go_at_call 60; refine (err02_no _).mono ?_; rintro e w9 ⟨rfl, rfl⟩))
  go_wp2_with fail
  go_ret
  exact ⟨rfl, ⟨HM2.out, HR2.out, H.out.d, H.out.gl⟩, HO2.out⟩

set_option maxHeartbeats 4000000 in
theorem d02_scrub_no1 {w : World} {lo hi p lo' hi' p' : Nat} {m : Mm} (h : Bo w lo hi p lo' hi' p' m) (hL : Lims w) (ask : Int) (hask : ask ≠ 0 ∧ ask ≠ 1 ∧ ask ≠ 2 ∧ ask ≠ 3) (x : Int) (hx : ¬ x < 0 ∧ m.c.gr ≤ x) (v a b : Int) :
    Calls Tryd.prog 14 #[.pointer (some ⟨p, 0, none⟩), .pointer (some ⟨p', 0, none⟩), .agg #[.int .i64 ask, .int .i64 x, .int .i64 v, .int .i64 a, .int .i64 b]] w fun e w' => e = .returned (.bool true) ∧ Bo w' lo hi p lo' hi' p' m ∧ Ou (In2 lo hi lo' hi') w w' := by
  have H := Lib.hid h
  have HL := Lib.hid hL
  have HSZ := Lib.hid (And.intro h.b.sz (And.intro h.r.sz (And.intro h.b.gl (And.intro h.d h.gl))))
  obtain ⟨q, cap, hrk⟩ := h.r
  obtain ⟨k0, _⟩ := hrk.sl
  obtain ⟨hpl, hql⟩ := hrk.lt
  have HRK := Lib.hid hrk
  have hn32 := m.n_le
  have a0 : (ask == 0) = false := by rw [beq_eq_false_iff_ne]; omega
  have a1 : (ask == 1) = false := by rw [beq_eq_false_iff_ne]; omega
  have a2 : (ask == 2) = false := by rw [beq_eq_false_iff_ne]; omega
  have a3 : (ask == 3) = false := by rw [beq_eq_false_iff_ne]; omega
  clear hask
  have e0 : decide (x ≥ 0) = true := by simp; omega
  have HX := Lib.hid (show x < 0 ∨ m.c.gr ≤ x from .inr hx.2)
  clear hx
  clear h hL hrk hn32
  generalize hN2 : 2 * m.n = N2 at *
  have HN2 := Lib.hid hN2
  clear hN2
  go_enter Tryd.func14, Tryd.ntmps14
  go_wp2_with fail
  refine region_past (by kernel_rfl) (by kernel_rfl) ?_; (repeat (go_big_quiet_step (fail))); refine wpQuiet_nil ?_; rintro _ ⟨pw, rfl⟩
  have hb0 : Below w.heap.size w pw.val := ext_past pw (ext_alloc _ (Below.refl _ _))
  have hx0 := (pw.below.block w.heap.size (by simp)).trans (alNew rfl)
  generalize pw.val = W0 at hb0 hx0 ⊢
  have HX0 := Lib.hid hx0
  have HM0 := Lib.hid (H.out.b.ext hb0)
  have HR0 := Lib.hid (H.out.r.ext hb0)
  have HO0 := Lib.hid (Ou.of_below (X := In2 lo hi lo' hi') hb0)
  have HL0 := Lib.hid (HL.out.ext hb0)
  obtain ⟨x0, x1, x2, x3, x4, xl⟩ := five_at hx0
  have hrk0 := HRK.out.ext hb0
  obtain ⟨k0, _⟩ := hrk0.sl
  obtain ⟨hpl, hql⟩ := hrk0.lt
  have HRK0 := Lib.hid hrk0
  rw [HN2.out] at k0
  clear hb0 hx0 hrk0
  clear k0 hpl hql
  go_wp2_with fail
  have HX0 := Lib.hid (show W0.drew.heap[w.heap.size]? = _ from HX0.out)
  have HM0 := Lib.hid (HM0.out.ext (ext_drew (Below.refl _ _)))
  have HR0 := Lib.hid (HR0.out.ext (ext_drew (Below.refl _ _)))
  have HO0 := Lib.hid (HO0.out.trans (Ou.of_below (ext_drew (Below.refl _ _))))
  have HL0 := Lib.hid (HL0.out.ext (ext_drew (Below.refl _ _)))
  clear x0 x1 x2 x3 x4
  have QQ := five_at HX0.out
  go_region_held3 (fun w' => w'.cell? ⟨w.heap.size, 1, none⟩ = some (.int .i64 x))
    (first | exact QQ.2.1)
    (first
      | (go_at_call 25; refine (bscrub_no HM0.out x HX.out).mono ?_; rintro e w1 ⟨rfl, hrg⟩; have HM1 := Lib.hid (HM0.out.ext hrg); have HR1 := Lib.hid (HR0.out.ext hrg); have HO1 := Lib.hid (HO0.out.trans (Ou.of_below hrg)); have hx := (hrg.block _ (lt_of HX0.out)).trans HX0.out; have HL1 := Lib.hid (HL0.out.ext hrg); have HX1 := Lib.hid hx; have QQ := five_at hx; have xl := lt_of hx; clear hx hrg)
      | (go_at_call 62; refine (rscrub02_no HR1.out x HX.out).mono ?_; rintro e w2 ⟨rfl, hrg⟩; have HM2 := Lib.hid (HM1.out.ext hrg); have HR2 := Lib.hid (HR1.out.ext hrg); have HO2 := Lib.hid (HO1.out.trans (Ou.of_below hrg)); have hx := (hrg.block _ (lt_of HX1.out)).trans HX1.out; have HL2 := Lib.hid (HL1.out.ext hrg); have HX2 := Lib.hid hx; have QQ := five_at hx; have xl := lt_of hx; clear hx hrg)
      | (go_at_call 60; refine (err02_no _).mono ?_; rintro e w9 ⟨rfl, rfl⟩))
  go_wp2_with fail
  go_ret
  exact ⟨rfl, ⟨HM2.out, HR2.out, H.out.d, H.out.gl⟩, HO2.out⟩

set_option maxHeartbeats 4000000 in
theorem d02_get_ok {w : World} {lo hi p lo' hi' p' : Nat} {m : Mm} (h : Bo w lo hi p lo' hi' p' m) (hL : Lims w) (l : Nat) (hl : l < 2 * m.n) (v a b : Int) :
    Calls Tryd.prog 14 #[.pointer (some ⟨p, 0, none⟩), .pointer (some ⟨p', 0, none⟩), .agg #[.int .i64 2, .int .i64 l, .int .i64 v, .int .i64 a, .int .i64 b]] w fun e w' => e = .returned (.bool true) ∧ Bo w' lo hi p lo' hi' p' m ∧ Ou (In2 lo hi lo' hi') w w' := by
  have H := Lib.hid h
  have HL := Lib.hid hL
  have HSZ := Lib.hid (And.intro h.b.sz (And.intro h.r.sz (And.intro h.b.gl (And.intro h.d h.gl))))
  obtain ⟨q, cap, hrk⟩ := h.r
  obtain ⟨k0, _⟩ := hrk.sl
  obtain ⟨hpl, hql⟩ := hrk.lt
  have HRK := Lib.hid hrk
  have hn32 := m.n_le
  have e0 : decide ((l : Int) ≥ 0) = true := by simp
  have HLL := Lib.hid hl
  have e1 : decide (l < 2 * m.n) = true := by simpa using hl
  have e2 : (l : Int) < ((2 * m.n : Nat) : Int) := by omega
  clear hl
  clear h hL hrk hn32
  generalize hN2 : 2 * m.n = N2 at *
  have HN2 := Lib.hid hN2
  clear hN2
  go_enter Tryd.func14, Tryd.ntmps14
  go_wp2_with fail
  refine region_past (by kernel_rfl) (by kernel_rfl) ?_; (repeat (go_big_quiet_step (fail))); refine wpQuiet_nil ?_; rintro _ ⟨pw, rfl⟩
  have hb0 : Below w.heap.size w pw.val := ext_past pw (ext_alloc _ (Below.refl _ _))
  have hx0 := (pw.below.block w.heap.size (by simp)).trans (alNew rfl)
  generalize pw.val = W0 at hb0 hx0 ⊢
  have HX0 := Lib.hid hx0
  have HM0 := Lib.hid (H.out.b.ext hb0)
  have HR0 := Lib.hid (H.out.r.ext hb0)
  have HO0 := Lib.hid (Ou.of_below (X := In2 lo hi lo' hi') hb0)
  have HL0 := Lib.hid (HL.out.ext hb0)
  obtain ⟨x0, x1, x2, x3, x4, xl⟩ := five_at hx0
  have hrk0 := HRK.out.ext hb0
  obtain ⟨k0, _⟩ := hrk0.sl
  obtain ⟨hpl, hql⟩ := hrk0.lt
  have HRK0 := Lib.hid hrk0
  rw [HN2.out] at k0
  clear hb0 hx0 hrk0
  clear k0 hpl hql
  go_wp2_with fail
  refine (bget_ok HM0.out HL0.out l (by rw [HN2.out]; exact HLL.out)).mono ?_
  rintro e w1 ⟨rfl, hrg⟩
  have HM1 := Lib.hid (HM0.out.ext hrg)
  have HR1 := Lib.hid (HR0.out.ext hrg)
  have HO1 := Lib.hid (HO0.out.trans (Ou.of_below hrg))
  have hx := (hrg.block _ (lt_of HX0.out)).trans HX0.out
  have HL1 := Lib.hid (HL0.out.ext hrg)
  have HX1 := Lib.hid hx
  clear x0 x1 x2 x3 x4 xl
  obtain ⟨x0, x1, x2, x3, x4, xl⟩ := five_at hx
  clear hx hrg
  obtain ⟨q1, cap1, hrk1⟩ := HR1.out
  obtain ⟨k0, _⟩ := hrk1.sl
  have y := hrk1.wd l (by rw [HN2.out]; exact HLL.out)
  obtain ⟨hpl, hql⟩ := hrk1.lt
  rw [HN2.out] at k0
  clear hrk1
  go_wp2_with fail
  refine region_past (by kernel_rfl) (by kernel_rfl) ?_; (repeat (go_big_quiet_step (fail))); refine wpQuiet_nil ?_; rintro _ ⟨px, rfl⟩
  go_wp2_with fail
  go_ret
  have hb9 := px.below
  exact ⟨rfl, ⟨HM1.out.ext hb9, HR1.out.ext hb9, H.out.d, H.out.gl⟩, HO1.out.trans (Ou.of_below hb9)⟩

set_option maxHeartbeats 4000000 in
theorem d02_get_no0 {w : World} {lo hi p lo' hi' p' : Nat} {m : Mm} (h : Bo w lo hi p lo' hi' p' m) (hL : Lims w) (x : Int) (hx : x < 0) (v a b : Int) :
    Calls Tryd.prog 14 #[.pointer (some ⟨p, 0, none⟩), .pointer (some ⟨p', 0, none⟩), .agg #[.int .i64 2, .int .i64 x, .int .i64 v, .int .i64 a, .int .i64 b]] w fun e w' => e = .returned (.bool true) ∧ Bo w' lo hi p lo' hi' p' m ∧ Ou (In2 lo hi lo' hi') w w' := by
  have H := Lib.hid h
  have HL := Lib.hid hL
  have HSZ := Lib.hid (And.intro h.b.sz (And.intro h.r.sz (And.intro h.b.gl (And.intro h.d h.gl))))
  obtain ⟨q, cap, hrk⟩ := h.r
  obtain ⟨k0, _⟩ := hrk.sl
  obtain ⟨hpl, hql⟩ := hrk.lt
  have HRK := Lib.hid hrk
  have hn32 := m.n_le
  have e0 : decide (x ≥ 0) = false := by simpa using hx
  have HX := Lib.hid (show x < 0 ∨ 2 * (m.n : Int) ≤ x from .inl hx)
  clear hx
  clear h hL hrk hn32
  generalize hN2 : 2 * m.n = N2 at *
  have HN2 := Lib.hid hN2
  clear hN2
  go_enter Tryd.func14, Tryd.ntmps14
  go_wp2_with fail
  refine region_past (by kernel_rfl) (by kernel_rfl) ?_; (repeat (go_big_quiet_step (fail))); refine wpQuiet_nil ?_; rintro _ ⟨pw, rfl⟩
  have hb0 : Below w.heap.size w pw.val := ext_past pw (ext_alloc _ (Below.refl _ _))
  have hx0 := (pw.below.block w.heap.size (by simp)).trans (alNew rfl)
  generalize pw.val = W0 at hb0 hx0 ⊢
  have HX0 := Lib.hid hx0
  have HM0 := Lib.hid (H.out.b.ext hb0)
  have HR0 := Lib.hid (H.out.r.ext hb0)
  have HO0 := Lib.hid (Ou.of_below (X := In2 lo hi lo' hi') hb0)
  have HL0 := Lib.hid (HL.out.ext hb0)
  obtain ⟨x0, x1, x2, x3, x4, xl⟩ := five_at hx0
  have hrk0 := HRK.out.ext hb0
  obtain ⟨k0, _⟩ := hrk0.sl
  obtain ⟨hpl, hql⟩ := hrk0.lt
  have HRK0 := Lib.hid hrk0
  rw [HN2.out] at k0
  clear hb0 hx0 hrk0
  clear k0 hpl hql
  go_wp2_with fail
  refine (bget_no HM0.out HL0.out x HX.out).mono ?_
  rintro e w1 ⟨rfl, hrg⟩
  have HM1 := Lib.hid (HM0.out.ext hrg)
  have HR1 := Lib.hid (HR0.out.ext hrg)
  have HO1 := Lib.hid (HO0.out.trans (Ou.of_below hrg))
  have hx := (hrg.block _ (lt_of HX0.out)).trans HX0.out
  have HL1 := Lib.hid (HL0.out.ext hrg)
  have HX1 := Lib.hid hx
  clear x0 x1 x2 x3 x4 xl
  obtain ⟨x0, x1, x2, x3, x4, xl⟩ := five_at hx
  clear hx hrg
  go_wp2_with fail
  go_ret
  exact ⟨rfl, ⟨HM1.out, HR1.out, H.out.d, H.out.gl⟩, HO1.out⟩

set_option maxHeartbeats 4000000 in
theorem d02_get_no1 {w : World} {lo hi p lo' hi' p' : Nat} {m : Mm} (h : Bo w lo hi p lo' hi' p' m) (hL : Lims w) (x : Int) (hx : ¬ x < 0 ∧ 2 * (m.n : Int) ≤ x) (v a b : Int) :
    Calls Tryd.prog 14 #[.pointer (some ⟨p, 0, none⟩), .pointer (some ⟨p', 0, none⟩), .agg #[.int .i64 2, .int .i64 x, .int .i64 v, .int .i64 a, .int .i64 b]] w fun e w' => e = .returned (.bool true) ∧ Bo w' lo hi p lo' hi' p' m ∧ Ou (In2 lo hi lo' hi') w w' := by
  have H := Lib.hid h
  have HL := Lib.hid hL
  have HSZ := Lib.hid (And.intro h.b.sz (And.intro h.r.sz (And.intro h.b.gl (And.intro h.d h.gl))))
  obtain ⟨q, cap, hrk⟩ := h.r
  obtain ⟨k0, _⟩ := hrk.sl
  obtain ⟨hpl, hql⟩ := hrk.lt
  have HRK := Lib.hid hrk
  have hn32 := m.n_le
  have e0 : decide (x ≥ 0) = true := by simp; omega
  have HX := Lib.hid (show x < 0 ∨ 2 * (m.n : Int) ≤ x from .inr hx.2)
  have e1 : decide (x < ((2 * m.n : Nat) : Int)) = false := by simp; omega
  clear hx
  clear h hL hrk hn32
  generalize hN2 : 2 * m.n = N2 at *
  have HN2 := Lib.hid hN2
  clear hN2
  go_enter Tryd.func14, Tryd.ntmps14
  go_wp2_with fail
  refine region_past (by kernel_rfl) (by kernel_rfl) ?_; (repeat (go_big_quiet_step (fail))); refine wpQuiet_nil ?_; rintro _ ⟨pw, rfl⟩
  have hb0 : Below w.heap.size w pw.val := ext_past pw (ext_alloc _ (Below.refl _ _))
  have hx0 := (pw.below.block w.heap.size (by simp)).trans (alNew rfl)
  generalize pw.val = W0 at hb0 hx0 ⊢
  have HX0 := Lib.hid hx0
  have HM0 := Lib.hid (H.out.b.ext hb0)
  have HR0 := Lib.hid (H.out.r.ext hb0)
  have HO0 := Lib.hid (Ou.of_below (X := In2 lo hi lo' hi') hb0)
  have HL0 := Lib.hid (HL.out.ext hb0)
  obtain ⟨x0, x1, x2, x3, x4, xl⟩ := five_at hx0
  have hrk0 := HRK.out.ext hb0
  obtain ⟨k0, _⟩ := hrk0.sl
  obtain ⟨hpl, hql⟩ := hrk0.lt
  have HRK0 := Lib.hid hrk0
  rw [HN2.out] at k0
  clear hb0 hx0 hrk0
  clear k0 hpl hql
  go_wp2_with fail
  refine (bget_no HM0.out HL0.out x HX.out).mono ?_
  rintro e w1 ⟨rfl, hrg⟩
  have HM1 := Lib.hid (HM0.out.ext hrg)
  have HR1 := Lib.hid (HR0.out.ext hrg)
  have HO1 := Lib.hid (HO0.out.trans (Ou.of_below hrg))
  have hx := (hrg.block _ (lt_of HX0.out)).trans HX0.out
  have HL1 := Lib.hid (HL0.out.ext hrg)
  have HX1 := Lib.hid hx
  clear x0 x1 x2 x3 x4 xl
  obtain ⟨x0, x1, x2, x3, x4, xl⟩ := five_at hx
  clear hx hrg
  go_wp2_with fail
  go_ret
  exact ⟨rfl, ⟨HM1.out, HR1.out, H.out.d, H.out.gl⟩, HO1.out⟩

set_option maxHeartbeats 4000000 in
theorem d02_set_ok {w : World} {lo hi p lo' hi' p' : Nat} {m : Mm} (h : Bo w lo hi p lo' hi' p' m) (hL : Lims w) (l : Nat) (hl : l < 2 * m.n) (v a b : Int) :
    Calls Tryd.prog 14 #[.pointer (some ⟨p, 0, none⟩), .pointer (some ⟨p', 0, none⟩), .agg #[.int .i64 3, .int .i64 l, .int .i64 v, .int .i64 a, .int .i64 b]] w fun e w' => e = .returned (.bool true) ∧ Bo w' lo hi p lo' hi' p' ({ m with wd := updN m.wd l v } : Mm) ∧ Ou (In2 lo hi lo' hi') w w' := by
  have H := Lib.hid h
  have HL := Lib.hid hL
  have HSZ := Lib.hid (And.intro h.b.sz (And.intro h.r.sz (And.intro h.b.gl (And.intro h.d h.gl))))
  obtain ⟨q, cap, hrk⟩ := h.r
  obtain ⟨k0, _⟩ := hrk.sl
  obtain ⟨hpl, hql⟩ := hrk.lt
  have HRK := Lib.hid hrk
  have hn32 := m.n_le
  have e0 : decide ((l : Int) ≥ 0) = true := by simp
  have HLL := Lib.hid hl
  have e1 : decide (l < 2 * m.n) = true := by simpa using hl
  have e2 : (l : Int) < ((2 * m.n : Nat) : Int) := by omega
  clear hl
  clear h hL hrk hn32
  generalize hN2 : 2 * m.n = N2 at *
  have HN2 := Lib.hid hN2
  clear hN2
  go_enter Tryd.func14, Tryd.ntmps14
  go_wp2_with fail
  refine region_past (by kernel_rfl) (by kernel_rfl) ?_; (repeat (go_big_quiet_step (fail))); refine wpQuiet_nil ?_; rintro _ ⟨pw, rfl⟩
  have hb0 : Below w.heap.size w pw.val := ext_past pw (ext_alloc _ (Below.refl _ _))
  have hx0 := (pw.below.block w.heap.size (by simp)).trans (alNew rfl)
  generalize pw.val = W0 at hb0 hx0 ⊢
  have HX0 := Lib.hid hx0
  have HM0 := Lib.hid (H.out.b.ext hb0)
  have HR0 := Lib.hid (H.out.r.ext hb0)
  have HO0 := Lib.hid (Ou.of_below (X := In2 lo hi lo' hi') hb0)
  have HL0 := Lib.hid (HL.out.ext hb0)
  obtain ⟨x0, x1, x2, x3, x4, xl⟩ := five_at hx0
  have hrk0 := HRK.out.ext hb0
  obtain ⟨k0, _⟩ := hrk0.sl
  obtain ⟨hpl, hql⟩ := hrk0.lt
  have HRK0 := Lib.hid hrk0
  rw [HN2.out] at k0
  clear hb0 hx0 hrk0
  have y := HRK0.out.wd l (by rw [HN2.out]; exact HLL.out)
  have yf := HRK0.out.fq l
  have hqx : q ≠ w.heap.size := by have := HSZ.out.2.1; have := HRK.out.bd.2.2.2.1; omega
  have hpx : p' ≠ q := HRK.out.bd.2.2.2.2
  go_wp2_with fail
  go_region
  obtain ⟨w1, hw1⟩ : ∃ W, W = (W0.setCell ⟨q, l, none⟩ (.int .i64 v)).drew := ⟨_, rfl⟩
  have hrg : Rg lo' hi' W0 w1 := by rw [hw1]; exact (Rg.set (o := l) (bd := none) W0 (.int .i64 v) HRK.out.bd.2.2.1 HRK.out.bd.2.2.2.1).trans (Rg.of_below (ext_drew (Below.refl _ _)))
  have hm : Rm w1 lo' hi' p' ({ m with wd := updN m.wd l v } : Mm) := by rw [hw1]; exact ⟨q, cap, (HRK0.out.setW l v).ext (ext_drew (Below.refl _ _))⟩
  rw [← hw1]
  clear hw1 k0 hpl hql y yf
  have HR1 := Lib.hid hm
  have HM1 := Lib.hid (HM0.out.rg hrg HSZ.out.2.2.2.1)
  have HO1 := Lib.hid (HO0.out.trans (Ou.of_rg hrg (fun k h1 h2 => .inr ⟨h1, h2⟩)))
  have hx := (hrg.block _ (lt_of HX0.out) (.inr HSZ.out.2.1.1)).trans HX0.out
  have HL1 := Lib.hid (HL0.out.keepR hrg HSZ.out.2.2.2.2)
  have HX1 := Lib.hid hx
  clear x0 x1 x2 x3 x4 xl
  obtain ⟨x0, x1, x2, x3, x4, xl⟩ := five_at hx
  clear hx hrg hm
  go_wp2_with fail
  refine (bset_ok HM1.out HL1.out l (by rw [HN2.out]; exact HLL.out) v).mono ?_
  rintro e w2 ⟨rfl, hm, hrg⟩
  have HM2 := Lib.hid hm
  have HR2 := Lib.hid (HR1.out.rg hrg HSZ.out.2.2.2.1.symm)
  have HO2 := Lib.hid (HO1.out.trans (Ou.of_rg hrg (fun k h1 h2 => .inl ⟨h1, h2⟩)))
  have hx := (hrg.block _ (lt_of HX1.out) (.inr HSZ.out.1.1)).trans HX1.out
  have HL2 := Lib.hid (HL1.out.keepR hrg HSZ.out.2.2.1)
  have HX2 := Lib.hid hx
  clear x0 x1 x2 x3 x4 xl
  obtain ⟨x0, x1, x2, x3, x4, xl⟩ := five_at hx
  clear hx hrg hm
  go_wp2_with fail
  refine (err02_yes _).mono ?_
  rintro e w9 ⟨rfl, rfl⟩
  go_wp2_with fail
  go_ret
  exact ⟨rfl, ⟨HM2.out, HR2.out, H.out.d, H.out.gl⟩, HO2.out⟩

set_option maxHeartbeats 4000000 in
theorem d02_set_no0 {w : World} {lo hi p lo' hi' p' : Nat} {m : Mm} (h : Bo w lo hi p lo' hi' p' m) (hL : Lims w) (x : Int) (hx : x < 0) (v a b : Int) :
    Calls Tryd.prog 14 #[.pointer (some ⟨p, 0, none⟩), .pointer (some ⟨p', 0, none⟩), .agg #[.int .i64 3, .int .i64 x, .int .i64 v, .int .i64 a, .int .i64 b]] w fun e w' => e = .returned (.bool true) ∧ Bo w' lo hi p lo' hi' p' m ∧ Ou (In2 lo hi lo' hi') w w' := by
  have H := Lib.hid h
  have HL := Lib.hid hL
  have HSZ := Lib.hid (And.intro h.b.sz (And.intro h.r.sz (And.intro h.b.gl (And.intro h.d h.gl))))
  obtain ⟨q, cap, hrk⟩ := h.r
  obtain ⟨k0, _⟩ := hrk.sl
  obtain ⟨hpl, hql⟩ := hrk.lt
  have HRK := Lib.hid hrk
  have hn32 := m.n_le
  have e0 : decide (x ≥ 0) = false := by simpa using hx
  have HX := Lib.hid (show x < 0 ∨ 2 * (m.n : Int) ≤ x from .inl hx)
  clear hx
  clear h hL hrk hn32
  generalize hN2 : 2 * m.n = N2 at *
  have HN2 := Lib.hid hN2
  clear hN2
  go_enter Tryd.func14, Tryd.ntmps14
  go_wp2_with fail
  refine region_past (by kernel_rfl) (by kernel_rfl) ?_; (repeat (go_big_quiet_step (fail))); refine wpQuiet_nil ?_; rintro _ ⟨pw, rfl⟩
  have hb0 : Below w.heap.size w pw.val := ext_past pw (ext_alloc _ (Below.refl _ _))
  have hx0 := (pw.below.block w.heap.size (by simp)).trans (alNew rfl)
  generalize pw.val = W0 at hb0 hx0 ⊢
  have HX0 := Lib.hid hx0
  have HM0 := Lib.hid (H.out.b.ext hb0)
  have HR0 := Lib.hid (H.out.r.ext hb0)
  have HO0 := Lib.hid (Ou.of_below (X := In2 lo hi lo' hi') hb0)
  have HL0 := Lib.hid (HL.out.ext hb0)
  obtain ⟨x0, x1, x2, x3, x4, xl⟩ := five_at hx0
  have hrk0 := HRK.out.ext hb0
  obtain ⟨k0, _⟩ := hrk0.sl
  obtain ⟨hpl, hql⟩ := hrk0.lt
  have HRK0 := Lib.hid hrk0
  rw [HN2.out] at k0
  clear hb0 hx0 hrk0
  clear k0 hpl hql
  go_wp2_with fail
  refine (bset_no HM0.out HL0.out x v HX.out).mono ?_
  rintro e w1 ⟨rfl, hrg⟩
  have HM1 := Lib.hid (HM0.out.ext hrg)
  have HR1 := Lib.hid (HR0.out.ext hrg)
  have HO1 := Lib.hid (HO0.out.trans (Ou.of_below hrg))
  have hx := (hrg.block _ (lt_of HX0.out)).trans HX0.out
  have HL1 := Lib.hid (HL0.out.ext hrg)
  have HX1 := Lib.hid hx
  clear x0 x1 x2 x3 x4 xl
  obtain ⟨x0, x1, x2, x3, x4, xl⟩ := five_at hx
  clear hx hrg
  go_wp2_with fail
  refine (err02_no _).mono ?_
  rintro e w9 ⟨rfl, rfl⟩
  go_wp2_with fail
  go_ret
  exact ⟨rfl, ⟨HM1.out, HR1.out, H.out.d, H.out.gl⟩, HO1.out⟩

set_option maxHeartbeats 4000000 in
theorem d02_set_no1 {w : World} {lo hi p lo' hi' p' : Nat} {m : Mm} (h : Bo w lo hi p lo' hi' p' m) (hL : Lims w) (x : Int) (hx : ¬ x < 0 ∧ 2 * (m.n : Int) ≤ x) (v a b : Int) :
    Calls Tryd.prog 14 #[.pointer (some ⟨p, 0, none⟩), .pointer (some ⟨p', 0, none⟩), .agg #[.int .i64 3, .int .i64 x, .int .i64 v, .int .i64 a, .int .i64 b]] w fun e w' => e = .returned (.bool true) ∧ Bo w' lo hi p lo' hi' p' m ∧ Ou (In2 lo hi lo' hi') w w' := by
  have H := Lib.hid h
  have HL := Lib.hid hL
  have HSZ := Lib.hid (And.intro h.b.sz (And.intro h.r.sz (And.intro h.b.gl (And.intro h.d h.gl))))
  obtain ⟨q, cap, hrk⟩ := h.r
  obtain ⟨k0, _⟩ := hrk.sl
  obtain ⟨hpl, hql⟩ := hrk.lt
  have HRK := Lib.hid hrk
  have hn32 := m.n_le
  have e0 : decide (x ≥ 0) = true := by simp; omega
  have HX := Lib.hid (show x < 0 ∨ 2 * (m.n : Int) ≤ x from .inr hx.2)
  have e1 : decide (x < ((2 * m.n : Nat) : Int)) = false := by simp; omega
  clear hx
  clear h hL hrk hn32
  generalize hN2 : 2 * m.n = N2 at *
  have HN2 := Lib.hid hN2
  clear hN2
  go_enter Tryd.func14, Tryd.ntmps14
  go_wp2_with fail
  refine region_past (by kernel_rfl) (by kernel_rfl) ?_; (repeat (go_big_quiet_step (fail))); refine wpQuiet_nil ?_; rintro _ ⟨pw, rfl⟩
  have hb0 : Below w.heap.size w pw.val := ext_past pw (ext_alloc _ (Below.refl _ _))
  have hx0 := (pw.below.block w.heap.size (by simp)).trans (alNew rfl)
  generalize pw.val = W0 at hb0 hx0 ⊢
  have HX0 := Lib.hid hx0
  have HM0 := Lib.hid (H.out.b.ext hb0)
  have HR0 := Lib.hid (H.out.r.ext hb0)
  have HO0 := Lib.hid (Ou.of_below (X := In2 lo hi lo' hi') hb0)
  have HL0 := Lib.hid (HL.out.ext hb0)
  obtain ⟨x0, x1, x2, x3, x4, xl⟩ := five_at hx0
  have hrk0 := HRK.out.ext hb0
  obtain ⟨k0, _⟩ := hrk0.sl
  obtain ⟨hpl, hql⟩ := hrk0.lt
  have HRK0 := Lib.hid hrk0
  rw [HN2.out] at k0
  clear hb0 hx0 hrk0
  clear k0 hpl hql
  go_wp2_with fail
  refine (bset_no HM0.out HL0.out x v HX.out).mono ?_
  rintro e w1 ⟨rfl, hrg⟩
  have HM1 := Lib.hid (HM0.out.ext hrg)
  have HR1 := Lib.hid (HR0.out.ext hrg)
  have HO1 := Lib.hid (HO0.out.trans (Ou.of_below hrg))
  have hx := (hrg.block _ (lt_of HX0.out)).trans HX0.out
  have HL1 := Lib.hid (HL0.out.ext hrg)
  have HX1 := Lib.hid hx
  clear x0 x1 x2 x3 x4 xl
  obtain ⟨x0, x1, x2, x3, x4, xl⟩ := five_at hx
  clear hx hrg
  go_wp2_with fail
  refine (err02_no _).mono ?_
  rintro e w9 ⟨rfl, rfl⟩
  go_wp2_with fail
  go_ret
  exact ⟨rfl, ⟨HM1.out, HR1.out, H.out.d, H.out.gl⟩, HO1.out⟩

end Go.Proofs.YtkfnjpmigifomaaDoor
