/- What this text holds: the walk of the comparison of a lane with the document's. No condition. -/
import Derived.Test.YtnablldaaajhkaaLanE
namespace Go.Proofs.Ytnablldaaajhkaa
open Go.RowKit

set_option maxRecDepth 100000 in
set_option maxHeartbeats 8000000 in
theorem same04 (B p q : Nat) (d : Int) (v v' : Value) (xs : List Nt) (w : World) (hP : LR B w p q d v v' xs) (h1 : 0 ≤ d) (h2 : d ≤ 16) (hx : (xs.length : Int) ≤ d) :
    Calls Try.prog 19 #[.pointer (some ⟨p, 0, none⟩), .pointer (some ⟨q, 0, none⟩)] w fun e w' => e = .returned (.bool true) ∧ Below w.heap.size w w' := by
  have HP := Lib.hid hP
  obtain ⟨A, cap, rfl, hsl, _⟩ := hP.r.val
  have c0 := hP.r.c0
  have c1 := hP.r.c1
  have hl := hP.r.lt
  have HS := Lib.hid hsl
  clear hP hsl
  go_enter Try.func19, Try.ntmps19
  go_wp2_with fail
  have QQ := And.intro c0 c1
  go_region_held3 (fun w' => w'.cell? ⟨q, 0, none⟩ = some (.int .i64 d) ∧ w'.cell? ⟨q, 1, none⟩ = some (.slice A xs.length cap))
    (exact QQ)
    (first
      | (go_at_call 24; refine (allN_any p d v xs _ (HP.out.l.ext (ext_drew (Below.refl _ _))) (by omega)).mono ?_; rintro e w1 ⟨b, vv, rfl, hN, _, _, hb⟩; have HN := Lib.hid hN; have HB := Lib.hid (undrew hb); have HP1 := Lib.hid (HP.out.ext HB.out); have QQ := And.intro HP1.out.r.c0 HP1.out.r.c1; clear hN hb)
      | (go_at_call 25; refine (notes_yes b vv xs A cap _ HN.out (HS.out.ext HB.out) (by omega)).mono ?_; rintro e w2 ⟨rfl, hb⟩; have HB2 := Lib.hid (ext_trans HB.out hb); have HP2 := Lib.hid (HP.out.ext HB2.out); have QQ := And.intro HP2.out.r.c0 HP2.out.r.c1; clear hb)
      | (go_at_call 23; refine (llen_any p d v xs _ HP2.out.l).mono ?_; rintro e w3 ⟨rfl, hw⟩; have HW := Lib.hid hw; have HB3 := Lib.hid (show Below w.heap.size w w3 by rw [HW.out]; exact HB2.out); have HP3 := Lib.hid (HP.out.ext HB3.out); have QQ := And.intro HP3.out.r.c0 HP3.out.r.c1; clear hw)
      | (go_at_call 21; refine (lroom_any p d v xs _ HP3.out.l (by omega) h1 h2).mono ?_; rintro e w4 ⟨rfl, hb⟩; have HB4 := Lib.hid (ext_trans HB3.out hb); have HP4 := Lib.hid (HP.out.ext HB4.out); have QQ := And.intro HP4.out.r.c0 HP4.out.r.c1; clear hb))
  clear QQ
  have hwr : IntKind.i64.wrap (d - xs.length) = d - xs.length := IntWalk.i64_in _ (by omega)
  rw [hwr]
  go_wp2_with fail
  go_ret
  exact ⟨ret_bool (by simp), HB4.out⟩


theorem slN_new (w : World) (ys : List Nt) (cs : Array Value) (t : TypeId) (h : cs.toList = flatN ys) : SlN (w.alloc (.cells cs t)) (some ⟨w.heap.size, 0, none⟩) ys := by
  intro _
  refine ⟨w.heap.size, 0, rfl, by simp, fun i hi j u hu => ?_⟩
  have hj : j < 9 := (List.getElem?_eq_some_iff.1 hu).1
  rw [Nat.zero_add]
  unfold World.cell?
  rw [heap_alloc_new w (.cells cs t)]
  have : cs[i * 9 + j]? = some u := by
    rw [← Array.getElem?_toList, h, flatN_at ys i j hi hj]
    exact hu
  simpa using this
theorem slN_at (w : World) (ys : List Nt) (cs : Array Value) (t : TypeId) (h : cs.toList = flatN ys) (B : Nat) (hB : B = w.heap.size) : SlN (w.alloc (.cells cs t)) (some ⟨B, 0, none⟩) ys := hB ▸ slN_new w ys cs t h

/-- The notes of the example. -/
def nA : Nt := ⟨4, 0, 1, 0, 0, 0, 0, false, 0⟩
def nB : Nt := ⟨4, 0, 2, 0, 0, 0, 0, false, 0⟩
/-- The example's state: a lane, and boxes of notes. -/
structure Aw4 (w0 w : World) (p : Nat) (v : Value) (xs : List Nt) (bs : List (Nat × Nt)) : Prop where
  la : La w p 2 v xs
  below : Below w0.heap.size w0 w
  hp : w0.heap.size ≤ p
  hv : ∀ g, v.ownBlock = some g → w0.heap.size ≤ g
  bx : ∀ e ∈ bs, BxN w e.1 e.2 ∧ p ≠ e.1 ∧ v.ownBlock ≠ some e.1
theorem Aw4.ext {w0 w w' : World} {p : Nat} {v : Value} {xs : List Nt} {bs : List (Nat × Nt)} (h : Aw4 w0 w p v xs bs) (hb : Below w.heap.size w w') : Aw4 w0 w' p v xs bs :=
  ⟨h.la.ext hb, ext_trans h.below hb, h.hp, h.hv, fun e he => ⟨(hb.block _ (h.bx e he).1.lt).trans (h.bx e he).1, (h.bx e he).2⟩⟩
theorem Aw4.add {w0 w : World} {p : Nat} {v : Value} {xs : List Nt} {bs : List (Nat × Nt)} (h : Aw4 w0 w p v xs bs) (x : Nt) :
    Aw4 w0 (w.alloc (.cells #[.int .i64 x.k, .int .i64 x.c, .int .i64 x.l, .int .i64 x.w, .int .i64 x.s, .int .i64 x.a, .int .i64 x.b, .bool x.d, .int .i64 x.n] 45)) p v xs ((w.heap.size, x) :: bs) := by
  have h' := h.ext (ext_alloc (.cells #[.int .i64 x.k, .int .i64 x.c, .int .i64 x.l, .int .i64 x.w, .int .i64 x.s, .int .i64 x.a, .int .i64 x.b, .bool x.d, .int .i64 x.n] 45) (Below.refl _ _))
  refine ⟨h'.la, h'.below, h'.hp, h'.hv, fun e he => ?_⟩
  rcases List.mem_cons.1 he with rfl | he
  · exact ⟨alNew rfl, Nat.ne_of_lt h.la.lt, fun e => by have := (h.la.own.lt _ e).2; omega⟩
  · exact h'.bx e he
theorem Aw4.step {w0 w w' : World} {p : Nat} {v v' : Value} {xs ys : List Nt} {bs : List (Nat × Nt)} {o : Option Nat} (h : Aw4 w0 w p v xs bs) (hl : La w' p 2 v' ys) (t : Tch w w' p o) (ho : o = none ∨ o = v.ownBlock) (hf : ∀ g, v'.ownBlock = some g → v.ownBlock = some g ∨ w.heap.size ≤ g) : Aw4 w0 w' p v' ys bs := by
  have hon : ∀ k, o = some k → v.ownBlock = some k := fun k e => by rcases ho with h | h; · rw [h] at e; cases e
                                                                    · rw [← h]; exact e
  refine ⟨hl, t.below h.below h.hp (fun g hg => h.hv g (hon g hg)), h.hp, fun g hg => ?_, fun e he => ?_⟩
  · rcases hf g hg with h1 | h1
    · exact h.hv g h1
    · have := h.below.size; omega
  · obtain ⟨h1, h2, h3⟩ := h.bx e he
    refine ⟨(t.block _ h1.lt (fun e => h2 e.symm) (fun e => h3 (hon _ e.symm))).trans h1, h2, fun e => ?_⟩
    have := h1.lt
    rcases hf _ e with h4 | h4
    · exact h3 h4
    · omega

set_option maxRecDepth 100000 in
set_option maxHeartbeats 8000000 in
theorem awake04 (w : World) : Calls Try.prog 16 #[] w fun e w' => e = .returned (.bool true) ∧ Below w.heap.size w w' := by
  have hqB : ∀ wx, (binOp .eql 45 nB.out nB.out).run Try.prog wx = .ok (.bool true) wx := fun wx => by rw [eqN]; simp
  have hqA : ∀ wx, (binOp .eql 45 nA.out nA.out).run Try.prog wx = .ok (.bool true) wx := fun wx => by rw [eqN]; simp
  simp only [Nt.out, nA, nB] at hqA hqB
  go_enter Try.func16, Try.ntmps16
  go_wp2_with fail
  refine (lnew_ok 2 _ (by decide) (by decide)).mono ?_
  rintro e w1 ⟨rfl, hL1, hB1⟩
  have H1 : Hid (Aw4 w w1 w.heap.size (.slice none 0 0) [] []) := Lib.hid ⟨hL1, hB1, Nat.le_refl _, (fun g hg => by cases hg), (fun e he => by cases he)⟩
  have hwl := hL1.lt
  clear hL1 hB1
  go_wp2_with fail
  have H1b := ((H1.out.add nA).add nB).ext (ext_alloc (.cells #[.int .i64 4, .int .i64 0, .int .i64 1, .int .i64 0, .int .i64 0, .int .i64 0, .int .i64 0, .bool false, .int .i64 0, .int .i64 4, .int .i64 0, .int .i64 2, .int .i64 0, .int .i64 0, .int .i64 0, .int .i64 0, .bool false, .int .i64 0] 45) (Below.refl _ _))
  refine (put_ok w.heap.size 2 (.slice none 0 0) [] [nA, nB] (some ⟨w1.heap.size + 1 + 1, 0, none⟩) 2 _ H1b.la (slN_at _ [nA, nB] _ _ rfl _ (by simp)) (by simp) (by decide) (by decide) (by decide) (by simp)).mono ?_
  rintro e w2 ⟨rfl, v1, hL2, hT2, hf2⟩
  have H2 : Hid (Aw4 w w2 w.heap.size v1 [nA, nB] [(w1.heap.size + 1, nB), (w1.heap.size, nA)]) := Lib.hid (by have := H1b.step hL2 hT2 (.inr rfl) hf2; simpa using this)
  clear H1b hL2 hT2 hf2
  have bA := (H2.out.bx (w1.heap.size, nA) (by simp)).1
  obtain ⟨a0, a1, a2, a3, a4, a5, a6, a7, a8⟩ := bA.cell
  have al := bA.lt
  simp only [nA] at a0 a1 a2 a3 a4 a5 a6 a7 a8
  clear bA
  go_wp2_with fail
  have H2b := H2.out.ext (ext_alloc (.cells #[.int .i64 4, .int .i64 0, .int .i64 1, .int .i64 0, .int .i64 0, .int .i64 0, .int .i64 0, .bool false, .int .i64 0] 45) (Below.refl _ _))
  refine (put_full w.heap.size 2 v1 [nA, nB] (some ⟨w2.heap.size, 0, none⟩) 1 1 _ H2b.la (by simp) (by decide) (by decide) (by decide)).mono ?_
  rintro e w3 ⟨rfl, hb3⟩
  have H3 := Lib.hid (H2b.ext hb3)
  clear H2b hb3 a0 a1 a2 a3 a4 a5 a6 a7 a8 al
  go_wp2_with fail
  refine (take_ok w.heap.size 2 v1 [nA, nB] (-1) 1 _ H3.out.la (by decide) (by decide) (by decide)).mono ?_
  rintro e w4 ⟨rfl, v4, hL4, hT4, hf4⟩
  have H4 : Hid (Aw4 w w4 w.heap.size v4 [nA] [(w1.heap.size + 1, nB), (w1.heap.size, nA)]) := Lib.hid (H3.out.step hL4 hT4 (.inl rfl) (fun g hg => .inr (hf4 g hg)))
  clear hL4 hT4 hf4
  simp only [Nt.val, atN, nA, nB, List.getElem?_cons_succ, List.getElem?_cons_zero, Option.getD_some]
  have H4b := H4.out.add nB
  have bB := (H4b.bx (w1.heap.size + 1, nB) (by simp)).1
  obtain ⟨a0, a1, a2, a3, a4, a5, a6, a7, a8⟩ := (H4.out.bx (w1.heap.size + 1, nB) (by simp)).1.cell
  have al := (H4.out.bx (w1.heap.size + 1, nB) (by simp)).1.lt
  simp only [nB] at a0 a1 a2 a3 a4 a5 a6 a7 a8
  have H4c := Lib.hid H4b
  clear H4b bB
  go_wp2_with fail
  have H5 := H4c.out.ext (ext_alloc (.cells #[.int .i64 4, .int .i64 0, .int .i64 2, .int .i64 0, .int .i64 0, .int .i64 0, .int .i64 0, .bool false, .int .i64 0] 45) (Below.refl _ _))
  refine (put_ok w.heap.size 2 v4 [nA] [nB] (some ⟨w4.heap.size + 1, 0, none⟩) 1 _ H5.la (slN_at _ [nB] _ _ rfl _ (by simp)) (by simp) (by decide) (by decide) (by decide) (by simp)).mono ?_
  rintro e w5 ⟨rfl, v5, hL5, hT5, hf5⟩
  have H6 : Hid (Aw4 w w5 w.heap.size v5 [nA, nB] [(w4.heap.size, nB), (w1.heap.size + 1, nB), (w1.heap.size, nA)]) := Lib.hid (H5.step hL5 hT5 (.inr rfl) hf5)
  clear H5 hL5 hT5 hf5 a0 a1 a2 a3 a4 a5 a6 a7 a8 al
  go_wp2_with fail
  refine (take_ok w.heap.size 2 v5 [nA, nB] 2 0 _ H6.out.la (by decide) (by decide) (by decide)).mono ?_
  rintro e w6 ⟨rfl, v6, hL6, hT6, hf6⟩
  have H7 : Hid (Aw4 w w6 w.heap.size v6 [nB] [(w4.heap.size, nB), (w1.heap.size + 1, nB), (w1.heap.size, nA)]) := Lib.hid (H6.out.step hL6 hT6 (.inl rfl) (fun g hg => .inr (hf6 g hg)))
  clear hL6 hT6 hf6
  simp only [Nt.val, atN, nA, nB, List.getElem?_cons_zero, Option.getD_some]
  have H8 := Lib.hid (H7.out.add nA)
  obtain ⟨a0, a1, a2, a3, a4, a5, a6, a7, a8⟩ := (H7.out.bx (w1.heap.size + 1, nB) (by simp)).1.cell
  obtain ⟨c0, c1, c2, c3, c4, c5, c6, c7, c8⟩ := (H7.out.bx (w1.heap.size, nA) (by simp)).1.cell
  obtain ⟨d0, d1, d2, d3, d4, d5, d6, d7, d8⟩ := (H7.out.bx (w4.heap.size, nB) (by simp)).1.cell
  have al := (H7.out.bx (w1.heap.size + 1, nB) (by simp)).1.lt
  have cl := (H7.out.bx (w1.heap.size, nA) (by simp)).1.lt
  have dl := (H7.out.bx (w4.heap.size, nB) (by simp)).1.lt
  simp only [nA, nB] at a0 a1 a2 a3 a4 a5 a6 a7 a8 c0 c1 c2 c3 c4 c5 c6 c7 c8 d0 d1 d2 d3 d4 d5 d6 d7 d8 al cl dl
  go_wp2_with fail
  refine (llen_any w.heap.size 2 v6 [nB] _ H8.out.la).mono ?_
  rintro e w8 ⟨rfl, hw8⟩
  have H9 : Hid (Aw4 w w8 w.heap.size v6 [nB] ((w6.heap.size, nA) :: [(w4.heap.size, nB), (w1.heap.size + 1, nB), (w1.heap.size, nA)])) := Lib.hid (by rw [hw8]; exact H8.out)
  clear hw8
  go_wp2_with fail
  refine (lroom_any w.heap.size 2 v6 [nB] _ H9.out.la (by simp) (by decide) (by decide)).mono ?_
  rintro e w9 ⟨rfl, hb9⟩
  have HB9 := Lib.hid (ext_trans H9.out.below hb9)
  clear hb9
  go_wp2_with fail
  go_ret
  exact ⟨rfl, HB9.out⟩

end Go.Proofs.Ytnablldaaajhkaa
