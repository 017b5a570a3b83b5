/- What this text holds: a lane and the document's lane side by side: a call done with both, and that they hold the same. No condition. -/
import Derived.Test.YtnablldaaajhkaaLanR
namespace Go.Proofs.Ytnablldaaajhkaa
open Go.RowKit

/-- A lane and the document's, with the same notes; no block is shared, and all lie from B on. -/
structure LR (B : Nat) (w : World) (p q : Nat) (d : Int) (v v' : Value) (xs : List Nt) : Prop where
  l : La w p d v xs
  r : La w q d v' xs
  pq : p ≠ q
  a : v.ownBlock ≠ some q
  b : v'.ownBlock ≠ some p
  c : ∀ g, v.ownBlock = some g → v'.ownBlock ≠ some g
  hp : B ≤ p
  hq : B ≤ q
  hv : ∀ g, v.ownBlock = some g → B ≤ g
  hv' : ∀ g, v'.ownBlock = some g → B ≤ g
/-- What a call with both may turn. -/
structure Two (w w' : World) (p q : Nat) (v v' v1 v1' : Value) : Prop where
  os : w'.os = w.os
  tape : w'.tape = w.tape
  output : w'.output = w.output
  size : w.heap.size ≤ w'.heap.size
  block : ∀ k, k < w.heap.size → k ≠ p → k ≠ q → v.ownBlock ≠ some k → v'.ownBlock ≠ some k → w'.heap[k]? = w.heap[k]?
  f : ∀ g, v1.ownBlock = some g → v.ownBlock = some g ∨ w.heap.size ≤ g
  f' : ∀ g, v1'.ownBlock = some g → v'.ownBlock = some g ∨ w.heap.size ≤ g
theorem La.tch {w w1 : World} {p q : Nat} {d : Int} {v' : Value} {xs : List Nt} {o : Option Nat} (r : La w q d v' xs) (t : Tch w w1 p o) (hpq : q ≠ p) (ho : o ≠ some q) (hv : v'.ownBlock ≠ some p) (hov : ∀ g, v'.ownBlock = some g → o ≠ some g) : La w1 q d v' xs :=
  r.of_blocks t.size (t.block q r.lt hpq (fun e => ho e.symm)) (fun g hg => t.block g (r.own.lt g hg).2 (fun e => hv (e ▸ hg)) (fun e => hov g hg e.symm))
theorem LR.ext {B : Nat} {w w' : World} {p q : Nat} {d : Int} {v v' : Value} {xs : List Nt} (h : LR B w p q d v v' xs) (hb : Below w.heap.size w w') : LR B w' p q d v v' xs :=
  ⟨h.l.ext hb, h.r.ext hb, h.pq, h.a, h.b, h.c, h.hp, h.hq, h.hv, h.hv'⟩
theorem LR.lt {B : Nat} {w : World} {p q : Nat} {d : Int} {v v' : Value} {xs : List Nt} (h : LR B w p q d v v' xs) : B ≤ w.heap.size := Nat.le_trans h.hp (Nat.le_of_lt h.l.lt)
/-- What lies below B, and what is new, is none of theirs. -/
theorem LR.far {B : Nat} {w : World} {p q : Nat} {d : Int} {v v' : Value} {xs : List Nt} (h : LR B w p q d v v' xs) {k : Nat} (hk : k < B ∨ w.heap.size ≤ k) : k ≠ p ∧ k ≠ q ∧ v.ownBlock ≠ some k ∧ v'.ownBlock ≠ some k := by
  have h1 := h.hp
  have h2 := h.hq
  have h3 := h.l.lt
  have h4 := h.r.lt
  refine ⟨by omega, by omega, fun e => ?_, fun e => ?_⟩
  · have h5 := h.hv k e
    have := (h.l.own.lt k e).2
    omega
  · have h5 := h.hv' k e
    have := (h.r.own.lt k e).2
    omega
theorem Two.below {B : Nat} {W w w' : World} {p q : Nat} {d : Int} {v v' v1 v1' : Value} {xs : List Nt} (t : Two w w' p q v v' v1 v1') (h : LR B w p q d v v' xs) (hb : Below B W w) : Below B W w' :=
  ⟨t.os.trans hb.os, t.tape.trans hb.tape, t.output.trans hb.output, Nat.le_trans hb.size t.size, fun k hk => by
    obtain ⟨h1, h2, h3, h4⟩ := h.far (.inl hk)
    exact (t.block k (Nat.lt_of_lt_of_le hk h.lt) h1 h2 h3 h4).trans (hb.block k hk)⟩
theorem Two.refl_of {w w' : World} {p q : Nat} {v v' : Value} (hb : Below w.heap.size w w') : Two w w' p q v v' v v' :=
  ⟨hb.os, hb.tape, hb.output, hb.size, fun k hk _ _ _ _ => hb.block k hk, fun _ hg => .inl hg, fun _ hg => .inl hg⟩
theorem Two.ext_left {w0 w w' : World} {p q : Nat} {v v' v1 v1' : Value} (hb : Below w0.heap.size w0 w) (t : Two w w' p q v v' v1 v1') : Two w0 w' p q v v' v1 v1' :=
  ⟨t.os.trans hb.os, t.tape.trans hb.tape, t.output.trans hb.output, Nat.le_trans hb.size t.size, fun k hk h1 h2 h3 h4 => (t.block k (Nat.lt_of_lt_of_le hk hb.size) h1 h2 h3 h4).trans (hb.block k hk),
    fun g hg => (t.f g hg).imp id (fun h => Nat.le_trans hb.size h), fun g hg => (t.f' g hg).imp id (fun h => Nat.le_trans hb.size h)⟩
theorem Two.ext_right {w w' w2 : World} {p q : Nat} {v v' v1 v1' : Value} (t : Two w w' p q v v' v1 v1') (hb : Below w'.heap.size w' w2) : Two w w2 p q v v' v1 v1' :=
  ⟨hb.os.trans t.os, hb.tape.trans t.tape, hb.output.trans t.output, Nat.le_trans t.size hb.size, fun k hk h1 h2 h3 h4 => (hb.block k (Nat.lt_of_lt_of_le hk t.size)).trans (t.block k hk h1 h2 h3 h4), t.f, t.f'⟩
/-- First the document's lane turns, then the other one. -/
theorem LR.both {B : Nat} {w w1 w2 w3 : World} {p q : Nat} {d : Int} {v v' v1 v1' : Value} {xs ys : List Nt} {o o' : Option Nat} (h : LR B w p q d v v' xs)
    (hr : La w1 q d v1' ys) (tr : Tch w w1 q o') (ho' : o' = none ∨ o' = v'.ownBlock) (fr : ∀ g, v1'.ownBlock = some g → v'.ownBlock = some g ∨ w.heap.size ≤ g)
    (hb : Below w1.heap.size w1 w2) (hl : La w3 p d v1 ys) (tl : Tch w2 w3 p o) (ho : o = none ∨ o = v.ownBlock) (fl : ∀ g, v1.ownBlock = some g → v.ownBlock = some g ∨ w2.heap.size ≤ g) :
    LR B w3 p q d v1 v1' ys ∧ Two w w3 p q v v' v1 v1' := by
  have hs1 := tr.size
  have hs2 := hb.size
  have hlp := h.l.lt
  have hlq := h.r.lt
  have hpq := h.pq
  have hvl : ∀ g, v.ownBlock = some g → g < w.heap.size := fun g hg => (h.l.own.lt g hg).2
  have hvl' : ∀ g, v'.ownBlock = some g → g < w.heap.size := fun g hg => (h.r.own.lt g hg).2
  have hr1l : ∀ g, v1'.ownBlock = some g → g < w1.heap.size := fun g hg => (hr.own.lt g hg).2
  have hon : ∀ k, o = some k → v.ownBlock = some k := fun k e => by rcases ho with h | h; · rw [h] at e; cases e
                                                                    · rw [← h]; exact e
  have hon' : ∀ k, o' = some k → v'.ownBlock = some k := fun k e => by rcases ho' with h | h; · rw [h] at e; cases e
                                                                       · rw [← h]; exact e
  refine ⟨⟨hl, ?_, hpq, ?_, ?_, ?_, h.hp, h.hq, ?_, ?_⟩, ⟨?_, ?_, ?_, ?_, ?_, ?_, fr⟩⟩
  · refine (hr.ext hb).tch tl (fun e => hpq e.symm) (fun e => h.a (hon _ e)) (fun e => ?_) (fun g hg e => ?_)
    · rcases fr _ e with h1 | h1
      · exact h.b h1
      · omega
    · rcases fr _ hg with h1 | h1
      · exact h.c _ (hon _ e) h1
      · have := hvl _ (hon _ e); omega
  · intro e
    rcases fl _ e with h1 | h1
    · exact h.a h1
    · omega
  · intro e
    rcases fr _ e with h1 | h1
    · exact h.b h1
    · omega
  · intro g hg e
    rcases fl _ hg with h1 | h1
    · rcases fr _ e with h2 | h2
      · exact h.c _ h1 h2
      · have := hvl _ h1; omega
    · have := hr1l _ e; omega
  · intro g hg
    rcases fl _ hg with h1 | h1
    · exact h.hv _ h1
    · have := h.lt; omega
  · intro g hg
    rcases fr _ hg with h1 | h1
    · exact h.hv' _ h1
    · have := h.lt; omega
  · exact tl.os.trans (hb.os.trans tr.os)
  · exact tl.tape.trans (hb.tape.trans tr.tape)
  · exact tl.output.trans (hb.output.trans tr.output)
  · have := tl.size; omega
  · intro k hk h1 h2 h3 h4
    rw [tl.block k (by omega) h1 (fun e => h3 (hon _ e.symm)), hb.block k (by omega), tr.block k hk h2 (fun e => h4 (hon' _ e.symm))]
  · intro g hg
    exact (fl g hg).imp id (by omega)

/-- First the lane turns, then the document's. -/
theorem LR.both' {B : Nat} {w w1 w2 w3 : World} {p q : Nat} {d : Int} {v v' v1 v1' : Value} {xs ys : List Nt} {o o' : Option Nat} (h : LR B w p q d v v' xs)
    (hl : La w1 p d v1 ys) (tl : Tch w w1 p o) (ho : o = none ∨ o = v.ownBlock) (fl : ∀ g, v1.ownBlock = some g → v.ownBlock = some g ∨ w.heap.size ≤ g)
    (hb : Below w1.heap.size w1 w2) (hr : La w3 q d v1' ys) (tr : Tch w2 w3 q o') (ho' : o' = none ∨ o' = v'.ownBlock) (fr : ∀ g, v1'.ownBlock = some g → v'.ownBlock = some g ∨ w2.heap.size ≤ g) :
    LR B w3 p q d v1 v1' ys ∧ Two w w3 p q v v' v1 v1' := by
  have h' : LR B w q p d v' v xs := ⟨h.r, h.l, fun e => h.pq e.symm, h.b, h.a, fun g hg e => h.c g e hg, h.hq, h.hp, h.hv', h.hv⟩
  obtain ⟨x, t⟩ := h'.both hl tl ho fl hb hr tr ho' fr
  exact ⟨⟨x.r, x.l, fun e => x.pq e.symm, x.b, x.a, fun g hg e => x.c g e hg, x.hq, x.hp, x.hv', x.hv⟩, ⟨t.os, t.tape, t.output, t.size, fun k hk h1 h2 h3 h4 => t.block k hk h2 h1 h4 h3, t.f', t.f⟩⟩

end Go.Proofs.Ytnablldaaajhkaa
