/- What this text holds: the walk of a call that is done with a lane and with the document's. No condition. -/
import Derived.Test.YtnablldaaajhkaaLanD
namespace Go.Proofs.Ytnablldaaajhkaa
open Go.RowKit

/-- What a call done with both comes to. -/
def DoesPost (B : Nat) (w : World) (p q : Nat) (d : Int) (v v' : Value) (e : Ending) (w' : World) : Prop :=
  e = .returned (.bool true) ∧ ∃ v1 v1' xs1, LR B w' p q d v1 v1' xs1 ∧ (xs1.length : Int) ≤ d ∧ Two w w' p q v v' v1 v1'

set_option maxRecDepth 100000 in
set_option maxHeartbeats 2000000 in
theorem does_put_ok (W0 : World) (p q : Nat) (d : Int) (v v' : Value) (xs ys : List Nt) (t : Int) (A : Option Addr) (c : Nat) (w : World) (hP : LR W0.heap.size w p q d v v' xs) (hA : SlN W0 A ys) (hB : Below W0.heap.size W0 w) (hc0 : A = none → c = 0) (h1 : 0 ≤ d) (h2 : d ≤ 16) (hf : xs.length + ys.length ≤ d) :
    Calls Try.prog 18 #[.pointer (some ⟨p, 0, none⟩), .pointer (some ⟨q, 0, none⟩), .agg #[.int .i64 0, .int .i64 t, .slice A ys.length c]] w (DoesPost W0.heap.size w p q d v v') := by
  have HP := Lib.hid hP
  have HA := Lib.hid hA
  have HB := Lib.hid hB
  have HC := Lib.hid hc0
  clear hP hA hB hc0
  have hxl : xs.length ≤ 16 := by omega
  go_enter Try.func18, Try.ntmps18
  go_wp2_with fail
  have b0 : Below w.heap.size w (w.alloc (.cells #[.int .i64 0, .int .i64 t, .slice A ys.length c] 36)) := ext_alloc _ (Below.refl _ _)
  have HP0 := Lib.hid (HP.out.ext b0)
  have HA0 := Lib.hid (HA.out.ext (HB.out.alloc (HP.out.lt) (.cells #[.int .i64 0, .int .i64 t, .slice A ys.length c] 36)))
  have HB0 := Lib.hid b0
  clear b0
  refine (rput_ok q d v' xs ys A c _ HP0.out.r HA0.out (by omega) h1 h2 hf HC.out).mono ?_
  rintro e w1 ⟨rfl, v1', hr, tr, fr⟩
  have hfar := HP.out.far (k := w.heap.size) (.inr (Nat.le_refl _))
  have hbx := (tr.block w.heap.size (by simp) hfar.2.1 (fun e => hfar.2.2.2 e.symm)).trans (alNew rfl)
  have k2 : w1.cell? ⟨w.heap.size, 2, none⟩ = some (.slice A ys.length c) := by simp [World.cell?, hbx]
  have hlp := HP0.out.l
  have HL1 := Lib.hid (hlp.tch tr HP.out.pq (fun e => HP.out.b e) (fun e => HP.out.a e) (fun g hg e => HP.out.c g hg e))
  have HA1 := Lib.hid (HA.out.ext (tr.below (HB.out.alloc HP.out.lt _) HP.out.hq HP.out.hv'))
  have hwl := lt_of hbx
  have HR := Lib.hid hr
  have TR := Lib.hid tr
  have FR := Lib.hid fr
  clear hr tr fr hlp hfar hbx
  go_wp2_with fail
  refine (put_ok p d v xs ys A c _ HL1.out HA1.out (by omega) h1 h2 hf HC.out).mono ?_
  rintro e w2 ⟨rfl, v1, hl, tl, fl⟩
  have HE := Lib.hid (HP0.out.both HR.out TR.out (.inr rfl) FR.out (Below.refl _ _) hl tl (.inr rfl) fl)
  clear hl tl fl
  go_wp2_with fail
  go_ret
  exact ⟨rfl, v1, v1', xs ++ ys, HE.out.1, by simp; omega, HE.out.2.ext_left HB0.out⟩

set_option maxRecDepth 100000 in
set_option maxHeartbeats 2000000 in
theorem does_put_full (W0 : World) (p q : Nat) (d : Int) (v v' : Value) (xs : List Nt) (t : Int) (A : Option Addr) (m c : Nat) (w : World) (hP : LR W0.heap.size w p q d v v' xs) (h1 : 0 ≤ d) (h2 : d ≤ 16) (hx : (xs.length : Int) ≤ d) (hm : m ≤ 20) (hf : d < xs.length + m) :
    Calls Try.prog 18 #[.pointer (some ⟨p, 0, none⟩), .pointer (some ⟨q, 0, none⟩), .agg #[.int .i64 0, .int .i64 t, .slice A m c]] w (DoesPost W0.heap.size w p q d v v') := by
  have HP := Lib.hid hP
  clear hP
  have hxl : xs.length ≤ 16 := by omega
  go_enter Try.func18, Try.ntmps18
  go_wp2_with fail
  have b0 : Below w.heap.size w (w.alloc (.cells #[.int .i64 0, .int .i64 t, .slice A m c] 36)) := ext_alloc _ (Below.refl _ _)
  have HP0 := Lib.hid (HP.out.ext b0)
  have HB0 := Lib.hid b0
  clear b0
  refine (rput_full q d v' xs A m c _ HP0.out.r (by omega) (by omega) h1 h2 hf).mono ?_
  rintro e w1 ⟨rfl, hb1⟩
  have hbx := (hb1.block w.heap.size (by simp)).trans (alNew rfl)
  have k2 : w1.cell? ⟨w.heap.size, 2, none⟩ = some (.slice A m c) := by simp [World.cell?, hbx]
  have hwl := lt_of hbx
  have HP1 := Lib.hid (HP0.out.ext hb1)
  have HB1 := Lib.hid (ext_trans HB0.out hb1)
  clear hb1 hbx
  go_wp2_with fail
  refine (put_full p d v xs A m c _ HP1.out.l (by omega) h1 h2 (by omega)).mono ?_
  rintro e w2 ⟨rfl, hb2⟩
  have HB2 := Lib.hid (ext_trans HB1.out hb2)
  have HP2 := Lib.hid (HP1.out.ext hb2)
  clear hb2
  go_wp2_with fail
  go_ret
  exact ⟨rfl, v, v', xs, HP2.out, hx, Two.refl_of HB2.out⟩

set_option maxRecDepth 100000 in
set_option maxHeartbeats 2000000 in
theorem does_take_none (W0 : World) (p q : Nat) (d : Int) (v v' : Value) (a t : Int) (A : Option Addr) (m c : Nat) (w : World) (hP : LR W0.heap.size w p q d v v' []) (h1 : 0 ≤ d) (ha : a ≠ 0) :
    Calls Try.prog 18 #[.pointer (some ⟨p, 0, none⟩), .pointer (some ⟨q, 0, none⟩), .agg #[.int .i64 a, .int .i64 t, .slice A m c]] w (DoesPost W0.heap.size w p q d v v') := by
  have HP := Lib.hid hP
  clear hP
  have e0 : (a == 0) = false := by simpa using ha
  have hq : ∀ wx, (binOp .eql 45 Nt.zero.out Nt.zero.out).run Try.prog wx = .ok (.bool true) wx := fun wx => by rw [eqN]; simp
  simp only [Nt.out, Nt.zero] at hq
  go_enter Try.func18, Try.ntmps18
  go_wp2_with fail
  have b0 : Below w.heap.size w (w.alloc (.cells #[.int .i64 a, .int .i64 t, .slice A m c] 36)) := ext_alloc _ (Below.refl _ _)
  have HP0 := Lib.hid (HP.out.ext b0)
  have HB0 := Lib.hid b0
  clear b0
  refine (take_none p d v t _ HP0.out.l).mono ?_
  rintro e w1 ⟨rfl, hb1⟩
  simp only [Nt.val, Nt.zero]
  have hbx := (hb1.block w.heap.size (by simp)).trans (alNew rfl)
  have k1 : w1.cell? ⟨w.heap.size, 1, none⟩ = some (.int .i64 t) := by simp [World.cell?, hbx]
  have hwl := lt_of hbx
  have HP1 := Lib.hid (HP0.out.ext hb1)
  have HB1 := Lib.hid (ext_trans HB0.out hb1)
  clear hb1 hbx
  go_wp2_with fail
  have b2 : Below w1.heap.size w1 (w1.alloc (.cells #[.int .i64 0, .int .i64 0, .int .i64 0, .int .i64 0, .int .i64 0, .int .i64 0, .int .i64 0, .bool false, .int .i64 0] 45)) := ext_alloc _ (Below.refl _ _)
  refine (rtake_none q d v' t _ (HP1.out.r.ext b2)).mono ?_
  rintro e w2 ⟨rfl, hb2⟩
  simp only [Nt.val, Nt.zero]
  have hb : BxN w2 w1.heap.size Nt.zero := (hb2.block w1.heap.size (by simp)).trans (alNew rfl)
  obtain ⟨t0, t1, t2, t3, t4, t5, t6, t7, t8⟩ := hb.cell
  have hbl := hb.lt
  have HB2 := Lib.hid (ext_trans HB1.out (ext_trans b2 hb2))
  have HP2 := Lib.hid (HP1.out.ext (ext_trans b2 hb2))
  clear hb2 b2 hb
  simp only [Nt.zero] at t0 t1 t2 t3 t4 t5 t6 t7 t8
  go_wp2_with fail
  go_ret
  refine ⟨rfl, v, v', [], HP2.out.ext (ext_alloc _ (Below.refl _ _)), by simpa using h1, Two.refl_of (ext_alloc _ HB2.out)⟩

/-- Which note is taken. -/
def whichN (t : Int) (n : Nat) : Nat := (if Int.tmod t n < 0 then Int.tmod t n + n else Int.tmod t n).toNat
theorem whichN_of (t : Int) (n : Nat) (hn : 0 < n) : whichN t n < n ∧ ((Int.tmod t n < 0 ∧ Int.tmod t n + n = whichN t n) ∨ (0 ≤ Int.tmod t n ∧ Int.tmod t n = whichN t n)) := by
  have hlo : -(n : Int) < Int.tmod t n := Int.lt_tmod_of_pos t (by omega)
  have hhi : Int.tmod t n < n := Int.tmod_lt_of_pos t (by omega)
  unfold whichN
  by_cases h : Int.tmod t n < 0
  · rw [if_pos h]; exact ⟨by omega, .inl ⟨h, by omega⟩⟩
  · rw [if_neg h]; exact ⟨by omega, .inr ⟨by omega, by omega⟩⟩

set_option maxRecDepth 100000 in
set_option maxHeartbeats 2000000 in
theorem does_take_ok (W0 : World) (p q : Nat) (d : Int) (v v' : Value) (xs : List Nt) (a t : Int) (A : Option Addr) (m c : Nat) (w : World) (hP : LR W0.heap.size w p q d v v' xs) (h2 : d ≤ 16) (hx : (xs.length : Int) ≤ d) (hx0 : 0 < xs.length) (ha : a ≠ 0) :
    Calls Try.prog 18 #[.pointer (some ⟨p, 0, none⟩), .pointer (some ⟨q, 0, none⟩), .agg #[.int .i64 a, .int .i64 t, .slice A m c]] w (DoesPost W0.heap.size w p q d v v') := by
  have HP := Lib.hid hP
  clear hP
  obtain ⟨j, hj⟩ : ∃ j, whichN t xs.length = j := ⟨_, rfl⟩
  have hwj := whichN_of t xs.length hx0
  rw [hj] at hwj
  have HW := Lib.hid hwj
  clear hwj hj
  have e0 : (a == 0) = false := by simpa using ha
  go_enter Try.func18, Try.ntmps18
  go_wp2_with fail
  have b0 : Below w.heap.size w (w.alloc (.cells #[.int .i64 a, .int .i64 t, .slice A m c] 36)) := ext_alloc _ (Below.refl _ _)
  have HP0 := Lib.hid (HP.out.ext b0)
  have HB0 := Lib.hid b0
  clear b0
  refine (take_ok p d v xs t j _ HP0.out.l (by omega) HW.out.1 HW.out.2).mono ?_
  rintro e w1 ⟨rfl, v1, hl, tl, fl⟩
  have hfar := HP.out.far (k := w.heap.size) (.inr (Nat.le_refl _))
  have hbx := (tl.block w.heap.size (by simp) hfar.1 (fun e => by cases e)).trans (alNew rfl)
  have k1 : w1.cell? ⟨w.heap.size, 1, none⟩ = some (.int .i64 t) := by simp [World.cell?, hbx]
  have hwl := lt_of hbx
  have HR1 := Lib.hid (HP0.out.r.tch tl (fun e => HP.out.pq e.symm) (fun e => by cases e) (fun e => HP.out.b e) (fun g hg e => by cases e))
  have HL := Lib.hid hl
  have TL := Lib.hid tl
  have FL := Lib.hid fl
  clear hl tl fl hfar hbx
  generalize hy : atN xs j = y at *
  have HY := Lib.hid hy
  clear hy
  have hq : ∀ wx, (binOp .eql 45 y.out y.out).run Try.prog wx = .ok (.bool true) wx := fun wx => by rw [eqN]; simp
  simp only [Nt.out] at hq
  simp only [Nt.val]
  go_wp2_with fail
  have b2 : Below w1.heap.size w1 (w1.alloc (.cells #[.int .i64 y.k, .int .i64 y.c, .int .i64 y.l, .int .i64 y.w, .int .i64 y.s, .int .i64 y.a, .int .i64 y.b, .bool y.d, .int .i64 y.n] 45)) := ext_alloc _ (Below.refl _ _)
  have HT := rtake_ok q d v' xs t j _ (HR1.out.ext b2) (by omega) HW.out.1 HW.out.2
  rw [HY.out] at HT
  refine HT.mono ?_
  clear HT
  rintro e w2 ⟨rfl, v1', hr, tr, fr⟩
  have hwq := HR1.out.lt
  have hb : BxN w2 w1.heap.size y := (tr.block w1.heap.size (by simp) (by omega) (fun e => by cases e)).trans (alNew rfl)
  obtain ⟨t0, t1, t2, t3, t4, t5, t6, t7, t8⟩ := hb.cell
  have hbl := hb.lt
  have HE := Lib.hid (HP0.out.both' HL.out TL.out (.inl rfl) (fun g hg => .inr (FL.out g hg)) b2 hr tr (.inl rfl) (fun g hg => .inr (fr g hg)))
  clear hr tr fr b2 hb
  simp only [Nt.val]
  go_wp2_with fail
  go_ret
  refine ⟨rfl, v1, v1', xs.eraseIdx j, HE.out.1.ext (ext_alloc _ (Below.refl _ _)), ?_, (HE.out.2.ext_left HB0.out).ext_right (ext_alloc _ (Below.refl _ _))⟩
  have := List.length_eraseIdx_le xs j
  omega

theorem does_any (W0 : World) (p q : Nat) (d : Int) (v v' : Value) (xs ys : List Nt) (a t : Int) (A : Option Addr) (c : Nat) (w : World) (hP : LR W0.heap.size w p q d v v' xs) (hA : SlN W0 A ys) (hB : Below W0.heap.size W0 w) (hc0 : A = none → c = 0) (h1 : 0 ≤ d) (h2 : d ≤ 16) (hx : (xs.length : Int) ≤ d) (hy : ys.length ≤ 20) :
    Calls Try.prog 18 #[.pointer (some ⟨p, 0, none⟩), .pointer (some ⟨q, 0, none⟩), .agg #[.int .i64 a, .int .i64 t, .slice A ys.length c]] w (DoesPost W0.heap.size w p q d v v') := by
  by_cases ha : a = 0
  · subst ha
    by_cases hf : (xs.length : Int) + ys.length ≤ d
    · exact does_put_ok W0 p q d v v' xs ys t A c w hP hA hB hc0 h1 h2 hf
    · exact does_put_full W0 p q d v v' xs t A ys.length c w hP h1 h2 hx hy (by omega)
  · by_cases hx0 : 0 < xs.length
    · exact does_take_ok W0 p q d v v' xs a t A ys.length c w hP h2 hx hx0 ha
    · have : xs = [] := List.eq_nil_of_length_eq_zero (by omega)
      subst this
      exact does_take_none W0 p q d v v' a t A ys.length c w hP h1 ha

end Go.Proofs.Ytnablldaaajhkaa
