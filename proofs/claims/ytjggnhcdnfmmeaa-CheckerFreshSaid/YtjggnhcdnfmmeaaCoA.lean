/- What this text holds: a checker by itself, and what lies beside it. No condition. -/
import Derived.Test.YtjggnhcdnfmmeaaWkB
import Derived.Test.YtjggnhcdnfmmeaaTblX
namespace Go.Proofs.Ytjggnhcdnfmmeaa
open Go.RowKit

/-- A checker outside of X. -/
structure Co (X : Nat → Prop) (n m : Int) (w : World) (p : Nat) (v : Value) (s : CkS) : Prop where
  ck : Ck w p v s
  fine : Fine n m s
  lim : ∀ k, X k → k < w.heap.size
  bp : ¬ X p
  bv : ∀ g, v.ownBlock = some g → ¬ X g
theorem Co.ext {X : Nat → Prop} {n m : Int} {w w' : World} {p : Nat} {v : Value} {s : CkS} (h : Co X n m w p v s) (hb : Below w.heap.size w w') : Co X n m w' p v s :=
  { h with ck := h.ck.ext hb, lim := fun k hk => Nat.lt_of_lt_of_le (h.lim k hk) hb.size }
theorem Co.kp {X : Nat → Prop} {n m : Int} {w w' : World} {p : Nat} {v : Value} {s : CkS} (h : Co X n m w p v s) (hb : Below w.heap.size w w') : Kp X w w' := ⟨hb.os, hb.tape, hb.output, hb.size, fun k hk => hb.block k (h.lim k hk)⟩
theorem Co.move {X : Nat → Prop} {n m : Int} {w w' : World} {p : Nat} {v v' : Value} {s s' : CkS} (h : Co X n m w p v s) (hc : Ck w' p v' s') (hf : Fine n m s') (ht : Tc w w' p v.ownBlock) (hn : ∀ g, v'.ownBlock = some g → v.ownBlock = some g ∨ w.heap.size ≤ g) :
    Co X n m w' p v' s' ∧ Kp X w w' := by
  refine ⟨⟨hc, hf, fun k hk => Nat.lt_of_lt_of_le (h.lim k hk) ht.size, h.bp, fun g hg hx => ?_⟩, ⟨ht.os, ht.tape, ht.output, ht.size, fun k hk => ht.block k (h.lim k hk) (fun e => h.bp (e ▸ hk)) (fun e => h.bv k e.symm hk)⟩⟩
  rcases hn g hg with h1 | h1
  · exact h.bv g h1 hx
  · have := h.lim g hx
    omega
theorem Co.other {X : Nat → Prop} {n m : Int} {w w' : World} {p g : Nat} {v : Value} {s : CkS} (h : Co X n m w p v s) (hg : w.grownBy w' (some g)) (hx : X g) : Co X n m w' p v s := by
  refine { h with ck := h.ck.keep (fun q hq => hg.block q (hq.elim (fun e => e ▸ h.ck.lt) (fun e => (h.ck.own.lt q e).2)) (fun e => ?_)), lim := fun k hk => Nat.lt_of_lt_of_le (h.lim k hk) hg.size }
  obtain rfl := Option.some.inj e
  rcases hq with rfl | hq
  · exact h.bp hx
  · exact h.bv q hq hx
theorem Co.weak {X Y : Nat → Prop} {n m : Int} {w : World} {p : Nat} {v : Value} {s : CkS} (h : Co X n m w p v s) (hy : ∀ k, Y k → X k) : Co Y n m w p v s :=
  { h with lim := fun k hk => h.lim k (hy k hk), bp := fun e => h.bp (hy _ e), bv := fun g hg e => h.bv g hg (hy _ e) }
theorem Co.begun {n m : Int} {w w1 : World} (h1 : 1 ≤ n) (h2 : n ≤ 8) (h3 : 1 ≤ m) (h4 : m ≤ 16) (hC : Ck w1 w.heap.size (.slice none 0 0) ⟨false, 0, 0, false, n, m, []⟩) : Co (fun k => k < w.heap.size) n m w1 w.heap.size (.slice none 0 0) ⟨false, 0, 0, false, n, m, []⟩ := by
  have := hC.lt
  exact ⟨hC, ⟨rfl, rfl, h1, h2, h3, h4, by simp; omega, fun k hk => by simp at hk, by simp, fun k hk => by simp at hk, fun e => by cases e⟩, fun k hk => by omega, by omega, (fun g e => by cases e)⟩
theorem BB.co {X : Nat → Prop} {n m : Int} {w : World} {p q : Nat} (h : BB X n m w p q) : ∃ v s, Co X n m w p v s := by
  obtain ⟨v, s, u, u', t, h⟩ := h
  exact ⟨v, s, h.ck, h.fine, h.lim, h.bp, h.bv⟩
theorem Co.ref {X : Nat → Prop} {n m : Int} {w w' : World} {p : Nat} {v : Value} {s : CkS} (h : Co X n m w p v s) (hR : Rf w' w.heap.size (.slice none 0 0) (.slice none 0 0) ⟨n, m, -1, 0, false, [], []⟩) (hb : Below w.heap.size w w') : BB X n m w' p w.heap.size := by
  have h1 := h.ext hb
  have h2 := h.ck.lt
  have h3 := h.fine.n1
  refine ⟨v, s, _, _, _, h1.ck, h1.fine, h1.lim, h1.bp, h1.bv, hR, rfl, rfl, by simp; omega, fun e => by have := h.lim _ e; omega, (fun g e => by cases e), (fun g e => by cases e), by omega, fun e => by have := (h.ck.own.lt _ e).2; omega, (fun e => by cases e), (fun e => by cases e), (fun g _ e => by cases e), (fun g _ e => by cases e)⟩

theorem Tb.kp {X : Nat → Prop} {w w' : World} {p g : Nat} {es : List En} (h : Tb w p g es) (k : Kp X w w') (hp : X p) (hg : X g) : Tb w' p g es := h.of_blocks k.size (k.block p hp) (k.block g hg)

theorem cwalking_any (p : Nat) (v : Value) (s : CkS) (w : World) (h : Ck w p v s) :
    Calls Try.prog 20 #[.pointer (some ⟨p, 0, none⟩)] w fun e w' => e = .returned (.tuple #[.int .i64 (if s.wk then s.g else 0), .int .i64 (if s.wk then s.a else 0), .bool s.wk]) ∧ Below w.heap.size w w' := by
  obtain ⟨c0, c1, c2, _⟩ := h.cells
  have hl := h.lt
  clear h
  cases hw : s.wk
  · rw [hw] at c0
    go_enter Try.func20, Try.ntmps20
    go_wp2_with fail
    go_ret3
    exact ⟨rfl, Below.refl _ _⟩
  · rw [hw] at c0
    go_enter Try.func20, Try.ntmps20
    go_wp2_with fail
    refine region_past (by kernel_rfl) (by kernel_rfl) ?_; (repeat (go_big_quiet_step (fail))); refine wpQuiet_nil ?_; rintro _ ⟨pw, rfl⟩
    go_wp2_with fail
    go_ret3
    exact ⟨rfl, pw.below⟩

end Go.Proofs.Ytjggnhcdnfmmeaa
