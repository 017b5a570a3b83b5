/- What this text holds: a call of both, weakly: it ends, and what both are stays as it must. No condition. -/
import Derived.Test.YtjggnhcdnfmmeaaWkA
namespace Go.Proofs.Ytjggnhcdnfmmeaa
open Go.RowKit

/-- A truth value comes back. -/
def Uno (e : Ending) : Prop := ∃ b : Bool, e = .returned (.bool b)

/-- What stands when a call has been made: the box of what was asked, and both. -/
structure Mid2 (X : Nat → Prop) (n m : Int) (w w' : World) (p q : Nat) (k g x y : Int) : Prop where
  bb : BB (fun j => X j ∨ j = w.heap.size) n m w' p q
  kp : Kp X w w'
  box : w'.heap[w.heap.size]? = some (.cells #[.int .i64 k, .int .i64 g, .int .i64 x, .int .i64 y] 35 (0, 0))
theorem Mid2.next {X : Nat → Prop} {n m : Int} {w w' w'' : World} {p q : Nat} {k g x y : Int} (h : Mid2 X n m w w' p q k g x y) (hb : BB (fun j => X j ∨ j = w.heap.size) n m w'' p q) (hk : Kp (fun j => X j ∨ j = w.heap.size) w' w'') : Mid2 X n m w w'' p q k g x y :=
  ⟨hb, h.kp.trans (hk.weak fun _ h => .inl h), (hk.block _ (.inr rfl)).trans h.box⟩
theorem Mid2.ext {X : Nat → Prop} {n m : Int} {w w' w'' : World} {p q : Nat} {k g x y : Int} (h : Mid2 X n m w w' p q k g x y) (hb : Below w'.heap.size w' w'') : Mid2 X n m w w'' p q k g x y := by
  obtain ⟨v, s, u, u', t, h1⟩ := h.bb
  exact h.next (h.bb.ext hb) (h1.kp hb)
theorem Mid2.cells {X : Nat → Prop} {n m : Int} {w w' : World} {p q : Nat} {k g x y : Int} (h : Mid2 X n m w w' p q k g x y) : w'.cell? ⟨w.heap.size, 0, none⟩ = some (.int .i64 k) ∧ w'.cell? ⟨w.heap.size, 1, none⟩ = some (.int .i64 g) ∧ w'.cell? ⟨w.heap.size, 2, none⟩ = some (.int .i64 x) ∧ w'.cell? ⟨w.heap.size, 3, none⟩ = some (.int .i64 y) ∧ w.heap.size < w'.heap.size := by
  have := h.box
  exact ⟨by simp [World.cell?, this], by simp [World.cell?, this], by simp [World.cell?, this], by simp [World.cell?, this], lt_of this⟩
theorem Mid2.ref {X : Nat → Prop} {n m : Int} {w w' : World} {p q : Nat} {k g x y : Int} (h : Mid2 X n m w w' p q k g x y) : w'.cell? ⟨q, 1, none⟩ = some (.int .i64 m) ∧ (∃ a : Int, w'.cell? ⟨q, 5, none⟩ = some (.int .i64 a)) ∧ q < w'.heap.size := by
  obtain ⟨v, s, u, u', t, h1⟩ := h.bb
  have c := h1.rf.cells
  exact ⟨by rw [← h1.gr]; exact c.2.1, ⟨_, c.2.2.2.2.2.1⟩, h1.rf.lt⟩
theorem Mid2.done {X : Nat → Prop} {n m : Int} {w w' : World} {p q : Nat} {k g x y : Int} (h : Mid2 X n m w w' p q k g x y) : BB X n m w' p q ∧ Kp X w w' := ⟨h.bb.weak fun _ h => .inl h, h.kp⟩
theorem Mid2.begin {X : Nat → Prop} {n m : Int} {w : World} {p q : Nat} (h : BB X n m w p q) (k g x y : Int) : Mid2 X n m w (w.alloc (.cells #[.int .i64 k, .int .i64 g, .int .i64 x, .int .i64 y] 35)) p q k g x y := by
  refine ⟨h.with _, ?_, alNew rfl⟩
  obtain ⟨v, s, u, u', t, h1⟩ := h
  exact h1.kp (ext_alloc _ (Below.refl _ _))

set_option maxRecDepth 100000 in
set_option maxHeartbeats 4000000 in
theorem does_weak (X : Nat → Prop) (n m : Int) (p q : Nat) (k g x y : Int) (w : World) (_h : BB X n m w p q) :
    Calls Try.prog 15 #[.pointer (some ⟨p, 0, none⟩), .pointer (some ⟨q, 0, none⟩), .agg #[.int .i64 k, .int .i64 g, .int .i64 x, .int .i64 y]] w fun e w' => Uno e ∧ BB X n m w' p q ∧ Kp X w w' := by
  have HM := Lib.hid (Mid2.begin _h k g x y)
  have HH := Lib.hid _h
  clear _h
  obtain ⟨W, hW⟩ : ∃ W, W = w.alloc (.cells #[.int .i64 k, .int .i64 g, .int .i64 x, .int .i64 y] 35) := ⟨_, rfl⟩
  have HW := Lib.hid hW
  rw [← hW] at HM
  obtain ⟨c0, c1, c2, c3, cl⟩ := HM.out.cells
  clear hW
  by_cases h0 : k = 0
  · have e0 : (k == 0) = true := by simpa using h0
    clear h0
    go_enter Try.func15, Try.ntmps15
    go_wp2_with (rw [← HW.out])
    refine (wbegin _ n m p q g W HM.out.bb).mono ?_
    rintro e w1 ⟨⟨a, b, rfl⟩, hb, hk⟩
    have HM1 := Lib.hid (HM.out.next hb hk)
    obtain ⟨d0, d1, d2, d3, dl⟩ := HM1.out.cells
    clear hb hk c0 c1 c2 c3 cl
    go_wp2_with fail
    refine (wrbegin _ n m p q g w1 HM1.out.bb).mono ?_
    rintro e w2 ⟨⟨a', b', rfl⟩, hb, hk⟩
    have HM2 := Lib.hid (HM1.out.next hb hk)
    obtain ⟨f0, f1, f2, f3, fl⟩ := HM2.out.cells
    clear hb hk d0 d1 d2 d3 dl
    go_wp2_with fail
    all_goals
      go_ret
      exact ⟨⟨_, rfl⟩, HM2.out.done⟩
  have e0 : (k == 0) = false := by simpa using h0
  by_cases h1 : k = 1
  · have e1 : (k == 1) = true := by simpa using h1
    have e3 : (k == 3) = false := by simp; omega
    clear h0 h1
    go_enter Try.func15, Try.ntmps15
    go_wp2_with (rw [← HW.out])
    refine (wwalked _ n m p q x y W HM.out.bb).mono ?_
    rintro e w1 ⟨⟨a, b, c, rfl⟩, hb, hk⟩
    have HM1 := Lib.hid (HM.out.next hb hk)
    obtain ⟨d0, d1, d2, d3, dl⟩ := HM1.out.cells
    clear hb hk c0 c1 c2 c3 cl
    go_wp2_with fail
    refine (wrwalked _ n m p q x y w1 HM1.out.bb).mono ?_
    rintro e w2 ⟨⟨a', b', c', rfl⟩, hb, hk⟩
    have HM2 := Lib.hid (HM1.out.next hb hk)
    obtain ⟨f0, f1, f2, f3, fl⟩ := HM2.out.cells
    clear hb hk d0 d1 d2 d3 dl
    go_wp2_with fail
    all_goals
      go_ret
      exact ⟨⟨_, rfl⟩, HM2.out.done⟩
  have e1 : (k == 1) = false := by simpa using h1
  by_cases h3 : k = 3
  · have e3 : (k == 3) = true := by simpa using h3
    obtain ⟨_, ⟨at', r5⟩, rl⟩ := HM.out.ref
    clear h0 h1 h3
    go_enter Try.func15, Try.ntmps15
    go_wp2_with (rw [← HW.out])
    refine (wwalked _ n m p q at' y W HM.out.bb).mono ?_
    rintro e w1 ⟨⟨a, b, c, rfl⟩, hb, hk⟩
    have HM1 := Lib.hid (HM.out.next hb hk)
    obtain ⟨d0, d1, d2, d3, dl⟩ := HM1.out.cells
    clear hb hk r5 rl c0 c1 c2 c3 cl
    go_wp2_with fail
    refine (wrwalked _ n m p q at' y w1 HM1.out.bb).mono ?_
    rintro e w2 ⟨⟨a', b', c', rfl⟩, hb, hk⟩
    have HM2 := Lib.hid (HM1.out.next hb hk)
    obtain ⟨f0, f1, f2, f3, fl⟩ := HM2.out.cells
    clear hb hk d0 d1 d2 d3 dl
    go_wp2_with fail
    all_goals
      go_ret
      exact ⟨⟨_, rfl⟩, HM2.out.done⟩
  have e3 : (k == 3) = false := by simpa using h3
  by_cases h2 : k = 2
  · have e2 : (k == 2) = true := by simpa using h2
    clear h0 h1 h2 h3
    go_enter Try.func15, Try.ntmps15
    go_wp2_with (rw [← HW.out])
    refine (wdrop _ n m p q g W HM.out.bb).mono ?_
    rintro e w1 ⟨⟨a, b, rfl⟩, hb, hk⟩
    have HM1 := Lib.hid (HM.out.next hb hk)
    obtain ⟨d0, d1, d2, d3, dl⟩ := HM1.out.cells
    clear hb hk c0 c1 c2 c3 cl
    go_wp2_with fail
    refine (wrdrop _ n m p q g w1 HM1.out.bb).mono ?_
    rintro e w2 ⟨⟨a', b', rfl⟩, hb, hk⟩
    have HM2 := Lib.hid (HM1.out.next hb hk)
    obtain ⟨f0, f1, f2, f3, fl⟩ := HM2.out.cells
    clear hb hk d0 d1 d2 d3 dl
    go_wp2_with fail
    all_goals
      go_ret
      exact ⟨⟨_, rfl⟩, HM2.out.done⟩
  have e2 : (k == 2) = false := by simpa using h2
  clear h0 h1 h2 h3
  by_cases g1 : g < 0
  · have jg1 : decide (g < 0) = true := by simp; omega
    go_enter Try.func15, Try.ntmps15
    go_wp2_with (rw [← HW.out])
    refine (wask _ n m p q x g W HM.out.bb).mono ?_
    rintro e w1 ⟨⟨a, b, rfl⟩, hb, hk⟩
    have HM1 := Lib.hid (HM.out.next hb hk)
    obtain ⟨d0, d1, d2, d3, dl⟩ := HM1.out.cells
    clear hb hk c0 c1 c2 c3 cl
    obtain ⟨r1, _, rl⟩ := HM1.out.ref
    go_wp2_with fail
    refine region_past (by kernel_rfl) (by kernel_rfl) ?_; (repeat (go_big_quiet_step (fail))); refine wpQuiet_nil ?_; rintro _ ⟨pw, rfl⟩
    obtain ⟨W2, hW2⟩ : ∃ W2, W2 = pw.val := ⟨_, rfl⟩
    have hb2 : Below w1.heap.size w1 W2 := by rw [hW2]; exact pw.below
    rw [← hW2]
    have HM2 := Lib.hid (HM1.out.ext hb2)
    obtain ⟨f0, f1, f2, f3, fl⟩ := HM2.out.cells
    clear hW2 pw hb2 d0 d1 d2 d3 dl r1 rl
    go_wp2_with fail
    all_goals
      go_ret
      exact ⟨⟨_, rfl⟩, HM2.out.done⟩
  have jg1 : decide (g < 0) = false := by simp; omega
  by_cases g2 : m ≤ g
  · have jg2 : decide (g ≥ m) = true := by simp; omega
    go_enter Try.func15, Try.ntmps15
    go_wp2_with (rw [← HW.out])
    refine (wask _ n m p q x g W HM.out.bb).mono ?_
    rintro e w1 ⟨⟨a, b, rfl⟩, hb, hk⟩
    have HM1 := Lib.hid (HM.out.next hb hk)
    obtain ⟨d0, d1, d2, d3, dl⟩ := HM1.out.cells
    clear hb hk c0 c1 c2 c3 cl
    obtain ⟨r1, _, rl⟩ := HM1.out.ref
    go_wp2_with fail
    refine region_past (by kernel_rfl) (by kernel_rfl) ?_; (repeat (go_big_quiet_step (fail))); refine wpQuiet_nil ?_; rintro _ ⟨pw, rfl⟩
    obtain ⟨W2, hW2⟩ : ∃ W2, W2 = pw.val := ⟨_, rfl⟩
    have hb2 : Below w1.heap.size w1 W2 := by rw [hW2]; exact pw.below
    rw [← hW2]
    have HM2 := Lib.hid (HM1.out.ext hb2)
    obtain ⟨f0, f1, f2, f3, fl⟩ := HM2.out.cells
    clear hW2 pw hb2 d0 d1 d2 d3 dl r1 rl
    go_wp2_with fail
    all_goals
      go_ret
      exact ⟨⟨_, rfl⟩, HM2.out.done⟩
  have jg2 : decide (g ≥ m) = false := by simp; omega
  by_cases x1 : x < 0
  · have jx1 : decide (x < 0) = true := by simp; omega
    go_enter Try.func15, Try.ntmps15
    go_wp2_with (rw [← HW.out])
    refine (wask _ n m p q x g W HM.out.bb).mono ?_
    rintro e w1 ⟨⟨a, b, rfl⟩, hb, hk⟩
    have HM1 := Lib.hid (HM.out.next hb hk)
    obtain ⟨d0, d1, d2, d3, dl⟩ := HM1.out.cells
    clear hb hk c0 c1 c2 c3 cl
    obtain ⟨r1, _, rl⟩ := HM1.out.ref
    go_wp2_with fail
    refine region_past (by kernel_rfl) (by kernel_rfl) ?_; (repeat (go_big_quiet_step (fail))); refine wpQuiet_nil ?_; rintro _ ⟨pw, rfl⟩
    obtain ⟨W2, hW2⟩ : ∃ W2, W2 = pw.val := ⟨_, rfl⟩
    have hb2 : Below w1.heap.size w1 W2 := by rw [hW2]; exact pw.below
    rw [← hW2]
    have HM2 := Lib.hid (HM1.out.ext hb2)
    obtain ⟨f0, f1, f2, f3, fl⟩ := HM2.out.cells
    clear hW2 pw hb2 d0 d1 d2 d3 dl r1 rl
    go_wp2_with fail
    all_goals
      go_ret
      exact ⟨⟨_, rfl⟩, HM2.out.done⟩
  have jx1 : decide (x < 0) = false := by simp; omega
  by_cases x2 : 3 < x
  · have jx2 : decide (x > 3) = true := by simp; omega
    go_enter Try.func15, Try.ntmps15
    go_wp2_with (rw [← HW.out])
    refine (wask _ n m p q x g W HM.out.bb).mono ?_
    rintro e w1 ⟨⟨a, b, rfl⟩, hb, hk⟩
    have HM1 := Lib.hid (HM.out.next hb hk)
    obtain ⟨d0, d1, d2, d3, dl⟩ := HM1.out.cells
    clear hb hk c0 c1 c2 c3 cl
    obtain ⟨r1, _, rl⟩ := HM1.out.ref
    go_wp2_with fail
    refine region_past (by kernel_rfl) (by kernel_rfl) ?_; (repeat (go_big_quiet_step (fail))); refine wpQuiet_nil ?_; rintro _ ⟨pw, rfl⟩
    obtain ⟨W2, hW2⟩ : ∃ W2, W2 = pw.val := ⟨_, rfl⟩
    have hb2 : Below w1.heap.size w1 W2 := by rw [hW2]; exact pw.below
    rw [← hW2]
    have HM2 := Lib.hid (HM1.out.ext hb2)
    obtain ⟨f0, f1, f2, f3, fl⟩ := HM2.out.cells
    clear hW2 pw hb2 d0 d1 d2 d3 dl r1 rl
    go_wp2_with fail
    all_goals
      go_ret
      exact ⟨⟨_, rfl⟩, HM2.out.done⟩
  have jx2 : decide (x > 3) = false := by simp; omega
  go_enter Try.func15, Try.ntmps15
  go_wp2_with (rw [← HW.out])
  refine (wask _ n m p q x g W HM.out.bb).mono ?_
  rintro e w1 ⟨⟨a, b, rfl⟩, hb, hk⟩
  have HM1 := Lib.hid (HM.out.next hb hk)
  obtain ⟨d0, d1, d2, d3, dl⟩ := HM1.out.cells
  clear hb hk c0 c1 c2 c3 cl
  obtain ⟨r1, _, rl⟩ := HM1.out.ref
  go_wp2_with fail
  refine region_past (by kernel_rfl) (by kernel_rfl) ?_; (repeat (go_big_quiet_step (fail))); refine wpQuiet_nil ?_; rintro _ ⟨pw, rfl⟩
  obtain ⟨W2, hW2⟩ : ∃ W2, W2 = pw.val := ⟨_, rfl⟩
  have hb2 : Below w1.heap.size w1 W2 := by rw [hW2]; exact pw.below
  rw [← hW2]
  have HM2 := Lib.hid (HM1.out.ext hb2)
  obtain ⟨f0, f1, f2, f3, fl⟩ := HM2.out.cells
  clear hW2 pw hb2 d0 d1 d2 d3 dl r1 rl
  go_wp2_with fail
  refine (wrask _ n m p q x g W2 HM2.out.bb).mono ?_
  rintro e w3 ⟨⟨r, rfl⟩, hb, hk⟩
  have HM3 := Lib.hid (HM2.out.next hb hk)
  clear hb hk f0 f1 f2 f3 fl
  go_wp2_with fail
  all_goals
    go_ret
    exact ⟨⟨_, rfl⟩, HM3.out.done⟩

end Go.Proofs.Ytjggnhcdnfmmeaa
