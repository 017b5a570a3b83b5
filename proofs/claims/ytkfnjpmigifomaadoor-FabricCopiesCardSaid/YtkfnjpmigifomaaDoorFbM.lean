/- What this text holds: a fabric in memory; which lane is found. No condition. -/
import Derived.Test.YtkfnjpmigifomaaDoorLanT
import Derived.Test.YtkfnjpmigifomaaDoorRnd
import Derived.Test.YtkfnjpmigifomaaDoorPlace
namespace Go.Proofs.YtkfnjpmigifomaaDoor
open Go.RowKit

/-- The cell of lane i (core by core, four to each). -/
def ptrI (n : Nat) (P : Nat → Nat) (i : Nat) : Value := .pointer (if i < n then some ⟨P i, 0, none⟩ else none)
def upF {α : Type} (f : Nat → α) (i : Nat) (x : α) : Nat → α := fun j => if j = i then x else f j
theorem upF_same {α : Type} (f : Nat → α) (i : Nat) (x : α) : upF f i x i = x := by simp [upF]
theorem upF_ne {α : Type} (f : Nat → α) {i j : Nat} (x : α) (h : j ≠ i) : upF f i x j = f j := by simp [upF, h]
/-- A fabric in memory: n lanes, each in blocks of its own. -/
structure Fa (w : World) (B p : Nat) (c : Cfg) (n : Nat) (P : Nat → Nat) (V : Nat → Value) (G : Nat → List Nt) : Prop where
  ok : c.ok
  hn : (n : Int) = 4 * c.co
  box : w.heap[p]? = some (.cells #[.int .i64 c.co, .int .i64 c.gr, .int .i64 c.se, .int .i64 c.wa, .int .i64 c.de, .int .i64 c.en, .int .i64 c.ba, ptrI n P 0, ptrI n P 1, ptrI n P 2, ptrI n P 3, ptrI n P 4, ptrI n P 5, ptrI n P 6, ptrI n P 7, ptrI n P 8, ptrI n P 9, ptrI n P 10, ptrI n P 11, ptrI n P 12, ptrI n P 13, ptrI n P 14, ptrI n P 15] 128 (0, 0))
  la : ∀ i, i < n → La w (P i) c.de (V i) (G i)
  lo : B ≤ p ∧ ∀ i, i < n → B ≤ P i ∧ ∀ g, (V i).ownBlock = some g → B ≤ g
  np : ∀ i, i < n → P i ≠ p ∧ (V i).ownBlock ≠ some p
  df : ∀ i j, i < n → j < n → i ≠ j → P i ≠ P j ∧ (V i).ownBlock ≠ some (P j) ∧ ∀ g, (V i).ownBlock = some g → (V j).ownBlock ≠ some g
  fit : ∀ i, i < n → ((G i).length : Int) ≤ c.de
/-- The blocks that calls of a fabric may turn. -/
def FS (n : Nat) (P : Nat → Nat) (V : Nat → Value) (k : Nat) : Prop := ∃ i, i < n ∧ (k = P i ∨ (V i).ownBlock = some k)
/-- What a call leaves alone. -/
structure Ft (S : Nat → Prop) (w w' : World) : Prop where
  os : w'.os = w.os
  tape : w'.tape = w.tape
  output : w'.output = w.output
  size : w.heap.size ≤ w'.heap.size
  block : ∀ k, k < w.heap.size → ¬ S k → w'.heap[k]? = w.heap[k]?
section
variable {w w' w2 : World} {B p : Nat} {c : Cfg} {n : Nat} {P : Nat → Nat} {V : Nat → Value} {G : Nat → List Nt} {S : Nat → Prop}
theorem Ft.of_below (h : Below w.heap.size w w') : Ft S w w' := ⟨h.os, h.tape, h.output, h.size, fun k hk _ => h.block k hk⟩
theorem Ft.below {W : World} (h : Ft S w w') (hb : Below W.heap.size W w) (hS : ∀ k, S k → W.heap.size ≤ k) : Below W.heap.size W w' :=
  ⟨h.os.trans hb.os, h.tape.trans hb.tape, h.output.trans hb.output, Nat.le_trans hb.size h.size, fun k hk => (h.block k (Nat.lt_of_lt_of_le hk hb.size) (fun hs => by have := hS k hs; omega)).trans (hb.block k hk)⟩
theorem Ft.trans {S' : Nat → Prop} (h : Ft S w w') (k : Ft S' w' w2) (hS : ∀ b, S' b → S b ∨ w.heap.size ≤ b) : Ft S w w2 :=
  ⟨k.os.trans h.os, k.tape.trans h.tape, k.output.trans h.output, Nat.le_trans h.size k.size, fun b hb hs => (k.block b (Nat.lt_of_lt_of_le hb h.size) (fun h2 => (hS b h2).elim hs (fun h3 => absurd hb (by omega)))).trans (h.block b hb hs)⟩
theorem Fa.n16 (h : Fa w B p c n P V G) : n ≤ 16 ∧ 4 ≤ n ∧ 1 ≤ c.de ∧ c.de ≤ 16 := by
  have h1 := h.ok.1
  have h2 := h.ok.2.2.2.2.1
  have h3 := h.hn
  unfold okAt at h1 h2
  omega
theorem Fa.lt (h : Fa w B p c n P V G) : p < w.heap.size := lt_of h.box
theorem Fa.fs (h : Fa w B p c n P V G) {k : Nat} (hk : FS n P V k) : B ≤ k ∧ k < w.heap.size ∧ k ≠ p := by
  obtain ⟨i, hi, rfl | hg⟩ := hk
  · exact ⟨(h.lo.2 i hi).1, (h.la i hi).lt, (h.np i hi).1⟩
  · exact ⟨(h.lo.2 i hi).2 k hg, ((h.la i hi).own.lt k hg).2, fun e => (h.np i hi).2 (e ▸ hg)⟩
theorem Fa.keep (h : Fa w B p c n P V G) (hs : w.heap.size ≤ w'.heap.size) (hp : w'.heap[p]? = w.heap[p]?) (hk : ∀ k, FS n P V k → w'.heap[k]? = w.heap[k]?) : Fa w' B p c n P V G :=
  ⟨h.ok, h.hn, hp.trans h.box, fun i hi => (h.la i hi).of_blocks hs (hk _ ⟨i, hi, .inl rfl⟩) (fun g hg => hk g ⟨i, hi, .inr hg⟩), h.lo, h.np, h.df, h.fit⟩
theorem Fa.ext (h : Fa w B p c n P V G) (hb : Below w.heap.size w w') : Fa w' B p c n P V G := h.keep hb.size (hb.block p h.lt) (fun k hk => hb.block k (h.fs hk).2.1)
/-- One lane was turned. -/
theorem Fa.turn (h : Fa w B p c n P V G) {i : Nat} (hi : i < n) {v : Value} {ys : List Nt} {r : Option Nat} (hB : B ≤ w.heap.size) (hl : La w' (P i) c.de v ys) (t : Tch w w' (P i) r) (hr : ∀ g, r = some g → (V i).ownBlock = some g) (hf : ∀ g, v.ownBlock = some g → (V i).ownBlock = some g ∨ w.heap.size ≤ g) (hy : (ys.length : Int) ≤ c.de) :
    Fa w' B p c n P (upF V i v) (upF G i ys) ∧ Ft (FS n P V) w w' ∧ ∀ k, FS n P (upF V i v) k → FS n P V k ∨ w.heap.size ≤ k := by
  have hp := h.lt
  have oth : ∀ j, j < n → j ≠ i → La w' (P j) c.de (V j) (G j) := fun j hj hne => by
    have hd := h.df j i hj hi hne
    have hd2 := h.df i j hi hj (Ne.symm hne)
    refine (h.la j hj).of_blocks t.size (t.block _ (h.la j hj).lt hd.1 (fun e => ?_)) (fun g hg => t.block g ((h.la j hj).own.lt g hg).2 (fun e => hd.2.1 (e ▸ hg)) (fun e => ?_))
    · exact hd2.2.1 (hr _ e.symm)
    · exact hd.2.2 g hg (hr _ e.symm)
  refine ⟨⟨h.ok, h.hn, (t.block p hp (fun e => (h.np i hi).1 e.symm) (fun e => (h.np i hi).2 (hr _ e.symm))).trans h.box, fun j hj => ?_, ⟨h.lo.1, fun j hj => ?_⟩, fun j hj => ?_, fun j k hj hk hne => ?_, fun j hj => ?_⟩, ⟨t.os, t.tape, t.output, t.size, fun k hk hs => t.block k hk (fun e => hs ⟨i, hi, .inl e⟩) (fun e => hs ⟨i, hi, .inr (hr _ e.symm)⟩)⟩, fun k hk => ?_⟩
  · by_cases e : j = i
    · subst e; rw [upF_same, upF_same]; exact hl
    · rw [upF_ne _ _ e, upF_ne _ _ e]; exact oth j hj e
  · refine ⟨(h.lo.2 j hj).1, fun g hg => ?_⟩
    by_cases e : j = i
    · subst e
      rw [upF_same] at hg
      rcases hf g hg with h1 | h1
      · exact (h.lo.2 j hj).2 g h1
      · omega
    · rw [upF_ne _ _ e] at hg; exact (h.lo.2 j hj).2 g hg
  · refine ⟨(h.np j hj).1, fun hg => ?_⟩
    by_cases e : j = i
    · subst e
      rw [upF_same] at hg
      rcases hf p hg with h1 | h1
      · exact (h.np j hj).2 h1
      · omega
    · rw [upF_ne _ _ e] at hg; exact (h.np j hj).2 hg
  · have hd := h.df j k hj hk hne
    refine ⟨hd.1, fun hg => ?_, fun g hg hg2 => ?_⟩
    · by_cases e : j = i
      · subst e
        rw [upF_same] at hg
        rcases hf _ hg with h1 | h1
        · exact hd.2.1 h1
        · have := (h.la k hk).lt; omega
      · rw [upF_ne _ _ e] at hg; exact hd.2.1 hg
    · by_cases e : j = i
      · subst e
        rw [upF_same] at hg
        rw [upF_ne _ _ (Ne.symm hne)] at hg2
        rcases hf _ hg with h1 | h1
        · exact hd.2.2 g h1 hg2
        · have := ((h.la k hk).own.lt g hg2).2; omega
      · rw [upF_ne _ _ e] at hg
        by_cases e2 : k = i
        · subst e2
          rw [upF_same] at hg2
          rcases hf _ hg2 with h1 | h1
          · exact hd.2.2 g hg h1
          · have := ((h.la j hj).own.lt g hg).2; omega
        · rw [upF_ne _ _ e2] at hg2; exact hd.2.2 g hg hg2
  · by_cases e : j = i
    · subst e; rw [upF_same]; exact hy
    · rw [upF_ne _ _ e]; exact h.fit j hj
  · obtain ⟨j, hj, rfl | hg⟩ := hk
    · exact .inl ⟨j, hj, .inl rfl⟩
    · by_cases e : j = i
      · subst e
        rw [upF_same] at hg
        rcases hf _ hg with h1 | h1
        · exact .inl ⟨j, hj, .inr h1⟩
        · exact .inr h1
      · rw [upF_ne _ _ e] at hg; exact .inl ⟨j, hj, .inr hg⟩
end

end Go.Proofs.YtkfnjpmigifomaaDoor
