/- What this text holds: the law CheckerLearns, walked: a checker beside a table; the first part. No condition. -/
import Derived.Test.YtjggnhcdnfmmeaaL09D
namespace Go.Proofs.Ytjggnhcdnfmmeaa
open Go.RowKit

/-- A checker beside a table, and the law's own box. -/
structure Lr (X : Nat → Prop) (n : Int) (m : Nat) (w0 w : World) (p pt gt : Nat) (v : Value) (s : CkS) (es : List En) : Prop where
  co : Co X n m w p v s
  tb : Tb w pt gt es
  below : Below w0.heap.size w0 w
  box : w.heap[w0.heap.size]? = some (.cells #[.int .i64 n, .int .i64 m] 22 (0, 0))
  xb : ∀ k, k ≤ w0.heap.size → X k
  xp : X pt
  xg : X gt
  g0 : w0.heap.size < gt
theorem Lr.kp {X : Nat → Prop} {n : Int} {m : Nat} {w0 w w' : World} {p pt gt : Nat} {v v' : Value} {s s' : CkS} {es : List En} (h : Lr X n m w0 w p pt gt v s es) (hc : Co X n m w' p v' s') (k : Kp X w w') : Lr X n m w0 w' p pt gt v' s' es :=
  ⟨hc, h.tb.kp k h.xp h.xg, ⟨k.os.trans h.below.os, k.tape.trans h.below.tape, k.output.trans h.below.output, Nat.le_trans h.below.size k.size, fun q hq => (k.block q (h.xb q (Nat.le_of_lt hq))).trans (h.below.block q hq)⟩, (k.block _ (h.xb _ (Nat.le_refl _))).trans h.box, h.xb, h.xp, h.xg, h.g0⟩
theorem Lr.move {X : Nat → Prop} {n : Int} {m : Nat} {w0 w w' : World} {p pt gt : Nat} {v v' : Value} {s s' : CkS} {es : List En} (h : Lr X n m w0 w p pt gt v s es) (hm : Co X n m w' p v' s' ∧ Kp X w w') : Lr X n m w0 w' p pt gt v' s' es := h.kp hm.1 hm.2
theorem Lr.ext {X : Nat → Prop} {n : Int} {m : Nat} {w0 w w' : World} {p pt gt : Nat} {v : Value} {s : CkS} {es : List En} (h : Lr X n m w0 w p pt gt v s es) (hb : Below w.heap.size w w') : Lr X n m w0 w' p pt gt v s es := h.kp (h.co.ext hb) (h.co.kp hb)
theorem Lr.set {X : Nat → Prop} {n : Int} {m : Nat} {w0 w w' : World} {p pt gt : Nat} {v : Value} {s : CkS} {es es' : List En} (h : Lr X n m w0 w p pt gt v s es) (hg : w.grownBy w' (some gt)) (ht : Tb w' pt gt es') : Lr X n m w0 w' p pt gt v s es' := by
  have := h.g0
  have hl := lt_of h.box
  exact ⟨h.co.other hg h.xg, ht, grown_below h.below hg (by omega), (hg.block _ hl (fun e => by have := Option.some.inj e; omega)).trans h.box, h.xb, h.xp, h.xg, h.g0⟩
theorem Lr.weak {X Y : Nat → Prop} {n : Int} {m : Nat} {w0 w : World} {p pt gt : Nat} {v : Value} {s : CkS} {es : List En} (h : Lr X n m w0 w p pt gt v s es) (hy : ∀ k, Y k → X k) (h1 : ∀ k, k ≤ w0.heap.size → Y k) (h2 : Y pt) (h3 : Y gt) : Lr Y n m w0 w p pt gt v s es :=
  { h with co := h.co.weak hy, xb := h1, xp := h2, xg := h3 }
/-- A new block stands beside. -/
theorem Lr.with {X : Nat → Prop} {n : Int} {m : Nat} {w0 w w' : World} {p pt gt b : Nat} {v : Value} {s : CkS} {es : List En} (h : Lr X n m w0 w p pt gt v s es) (hb : Below w.heap.size w w') (h1 : w.heap.size ≤ b) (h2 : b < w'.heap.size) : Lr (fun k => X k ∨ k = b) n m w0 w' p pt gt v s es := by
  have h3 := h.ext hb
  refine { h3 with co := { h3.co with lim := fun k hk => ?_, bp := fun e => ?_, bv := fun g hg e => ?_ }, xb := fun k hk => .inl (h.xb k hk), xp := .inl h.xp, xg := .inl h.xg }
  · rcases hk with hk | rfl
    · exact h3.co.lim k hk
    · exact h2
  · rcases e with e | e
    · exact h.co.bp e
    · have := h.co.ck.lt; omega
  · rcases e with e | e
    · exact h.co.bv g hg e
    · have := (h.co.ck.own.lt g hg).2; omega
theorem Lr.first {n : Int} {m : Nat} {w W w1 w2 : World} (b1 : 1 ≤ n) (b2 : n ≤ 8) (b3 : 1 ≤ m) (b4 : m ≤ 16) (hW : W = w.alloc (.cells #[.int .i64 n, .int .i64 m] 22)) (hC : Ck w1 W.heap.size (.slice none 0 0) ⟨false, 0, 0, false, n, m, []⟩) (hb1 : Below W.heap.size W w1)
    (hT : Tb w2 (w1.heap.size + 1) w1.heap.size (List.replicate m (0, false))) (hb2 : Below w1.heap.size w1 w2) : Lr (fun k => k ≤ w.heap.size ∨ k = w1.heap.size ∨ k = w1.heap.size + 1) n m w w2 W.heap.size (w1.heap.size + 1) w1.heap.size (.slice none 0 0) ⟨false, 0, 0, false, n, m, []⟩ (List.replicate m (0, false)) := by
  have hs : W.heap.size = w.heap.size + 1 := by rw [hW]; simp
  have hbx : W.heap[w.heap.size]? = some (.cells #[.int .i64 n, .int .i64 m] 22 (0, 0)) := by rw [hW]; exact alNew rfl
  have h1 := hC.lt
  have h2 := hT.pl
  have hbW : Below w.heap.size w W := by rw [hW]; exact ext_alloc _ (Below.refl _ _)
  have hc := (Co.begun b1 b2 (by omega) (by omega) hC).ext hb2
  refine ⟨{ hc with lim := fun k hk => ?_, bp := fun e => ?_, bv := fun g e => by cases e }, hT, ext_trans hbW (ext_trans hb1 hb2), (hb2.block _ (by omega)).trans ((hb1.block _ (by omega)).trans hbx), fun k hk => .inl hk, .inr (.inr rfl), .inr (.inl rfl), by omega⟩
  · omega
  · omega

set_option maxRecDepth 100000 in
set_option maxHeartbeats 4000000 in
/-- A round of the first loop: a call of both, the other one new. -/
theorem Lr.dealt {X : Nat → Prop} {n : Int} {m : Nat} {w0 w w' : World} {p pt gt q : Nat} {v : Value} {s : CkS} {es : List En} (h : Lr X n m w0 w p pt gt v s es) (hq : BB X n m w' p q) (hk : Kp X w w') : ∃ v' s', Lr X n m w0 w' p pt gt v' s' es := by
  obtain ⟨v', s', hc⟩ := hq.co
  exact ⟨v', s', h.kp hc hk⟩

theorem learnt_mem {ks : List Fa} {en : Int} {x f : Fa} (h : f ∈ learnt ks en x) : f ∈ ks ∨ f = x := by
  unfold learnt at h
  rcases List.mem_append.1 h with h | h
  · split at h
    · exact .inl h
    · exact .inl (List.mem_of_mem_tail h)
  · exact .inr (by simpa using h)

theorem cwalking_no (p : Nat) (v : Value) (s : CkS) (w : World) (h : Ck w p v s) (hw : s.wk = false) :
    Calls Try.prog 20 #[.pointer (some ⟨p, 0, none⟩)] w fun e w' => e = .returned (.tuple #[.int .i64 0, .int .i64 0, .bool false]) ∧ Below w.heap.size w w' := by
  have := cwalking_any p v s w h
  rw [hw] at this
  exact this
theorem cwalking_yes (p : Nat) (v : Value) (s : CkS) (w : World) (h : Ck w p v s) (hw : s.wk = true) :
    Calls Try.prog 20 #[.pointer (some ⟨p, 0, none⟩)] w fun e w' => e = .returned (.tuple #[.int .i64 s.g, .int .i64 s.a, .bool true]) ∧ Below w.heap.size w w' := by
  have := cwalking_any p v s w h
  rw [hw] at this
  exact this

end Go.Proofs.Ytjggnhcdnfmmeaa
