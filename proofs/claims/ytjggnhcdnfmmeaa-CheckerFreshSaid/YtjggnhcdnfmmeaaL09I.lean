/- What this text holds: the law CheckerFresh: what lies beside a checker and a table; what was seen of what is told. No condition. -/
import Derived.Test.YtjggnhcdnfmmeaaTu09
import Derived.Test.YtjggnhcdnfmmeaaRst
import Derived.Test.YtjggnhcdnfmmeaaL09A
namespace Go.Proofs.Ytjggnhcdnfmmeaa
open Go.RowKit

/-- Two blocks alone were turned. -/
structure Bt (a w : World) (b s : Nat) : Prop where
  os : w.os = a.os
  tape : w.tape = a.tape
  output : w.output = a.output
  size : a.heap.size ≤ w.heap.size
  block : ∀ k, k < a.heap.size → k ≠ b → k ≠ s → w.heap[k]? = a.heap[k]?
theorem Bt.refl (a : World) (b s : Nat) : Bt a a b s := ⟨rfl, rfl, rfl, Nat.le_refl _, fun _ _ _ _ => rfl⟩
theorem Bt.ext {a w v : World} {b s : Nat} (h : Bt a w b s) (k : Below w.heap.size w v) : Bt a v b s :=
  ⟨k.os.trans h.os, k.tape.trans h.tape, k.output.trans h.output, Nat.le_trans h.size k.size, fun j h1 h2 h3 => (k.block j (Nat.lt_of_lt_of_le h1 h.size)).trans (h.block j h1 h2 h3)⟩
theorem Bt.set {a w : World} {b s : Nat} (h : Bt a w b s) (k o : Nat) (hk : k = b ∨ k = s) (v : Value) : Bt a (w.setCell ⟨k, o, none⟩ v) b s :=
  ⟨h.os, h.tape, h.output, by simpa using h.size, fun j h1 h2 h3 => (Below.heap_setCell w _ _ j (fun e => by rcases hk with e2 | e2 <;> simp_all)).trans (h.block j h1 h2 h3)⟩
theorem ownFrom_bt {β : Type} {a : World} {b s B : Nat} (hB : a.heap.size ≤ B) : Go.OwnFrom B (fun (_ : β) W => Bt a W b s) := fun _ A C row hs hg hr =>
  ⟨hg.os.trans hs.os, hg.tape.trans hs.tape, hg.output.trans hs.output, Nat.le_trans hs.size hg.size, fun k h1 h2 h3 => (hg.block k (Nat.lt_of_lt_of_le h1 hs.size) (fun e => by have := (hr k e.symm).1; omega)).trans (hs.block k h1 h2 h3)⟩

/-- Which granules were seen. -/
def Seen (w : World) (S : Nat) (s : Nat → Bool) : Prop := ∃ cs, w.heap[S]? = some (.cells cs 62 (0, 0)) ∧ cs.size = 16 ∧ ∀ i, i < 16 → cs[i]? = some (.bool (s i))
theorem Seen.cell {w : World} {S : Nat} {s : Nat → Bool} (h : Seen w S s) {i : Nat} (hi : i < 16) : w.cell? ⟨S, i, none⟩ = some (.bool (s i)) := by
  obtain ⟨cs, h1, _, h3⟩ := h
  simp [World.cell?, h1, h3 i hi]
theorem Seen.free {w : World} {S : Nat} {s : Nat → Bool} (h : Seen w S s) (i : Nat) : w.frozen? ⟨S, i, none⟩ = false := by
  obtain ⟨cs, h1, _, h3⟩ := h
  simp [World.frozen?, h1]
theorem Seen.lt {w : World} {S : Nat} {s : Nat → Bool} (h : Seen w S s) : S < w.heap.size := by
  obtain ⟨cs, h1, _, h3⟩ := h
  exact lt_of h1
theorem Seen.keep {w w' : World} {S : Nat} {s : Nat → Bool} (h : Seen w S s) (k : w'.heap[S]? = w.heap[S]?) : Seen w' S s := by
  obtain ⟨cs, h1, h2⟩ := h
  exact ⟨cs, k.trans h1, h2⟩
theorem Seen.held {w w' : World} {S : Nat} {s : Nat → Bool} {row : Option Nat} (h : Seen w S s) (hg : w.grownBy w' row) (hr : ∀ r, row = some r → ∃ o : Obj, w.heap[r]? = some o ∧ o.isCells = false) : Seen w' S s := by
  obtain ⟨cs, h1, h2⟩ := h
  exact ⟨cs, blk_held h1 hg hr, h2⟩
theorem Seen.set {w : World} {S : Nat} {s : Nat → Bool} (h : Seen w S s) {j : Nat} (hj : j < 16) (x : Bool) : Seen (w.setCell ⟨S, j, none⟩ (.bool x)) S (fun i => if i = j then x else s i) := by
  obtain ⟨cs, h1, h2, h3⟩ := h
  refine ⟨_, Joins.block_setCell (i := j) h1 (.bool x), by simpa using h2, fun i hi => ?_⟩
  by_cases hij : i = j
  · subst hij
    simp [h2, hi]
  · show _ = some (Value.bool (if i = j then x else s i))
    rw [if_neg hij, ← h3 i hi]
    simp [Ne.symm hij]
theorem Seen.of_eq {w : World} {S : Nat} {s s' : Nat → Bool} (h : Seen w S s) (e : ∀ i, i < 16 → s i = s' i) : Seen w S s' := by
  obtain ⟨cs, h1, h2, h3⟩ := h
  exact ⟨cs, h1, h2, fun i hi => by rw [h3 i hi, e i hi]⟩
def zs16 : Array Value := Array.replicate 16 (.bool false)
theorem zero16 (w : World) : (zeroValue 62).run Try.prog w = .ok (.agg zs16) w := by kernel_rfl
theorem seen_new (w : World) : Seen (w.alloc (.cells zs16 62)) w.heap.size (fun _ => false) := by
  refine ⟨_, alNew rfl, by simp [zs16], fun i hi => ?_⟩
  simp [zs16, hi]
/-- What was seen of what was told. -/
def sn {P : Fa → Prop} (pre : List { f : Fa // P f }) (i : Nat) : Bool := decide ((i : Int) ∈ pre.map fun f => f.1.1)
theorem sn_snoc {P : Fa → Prop} (pre : List { f : Fa // P f }) (x : { f : Fa // P f }) (j : Nat) (hj : x.1.1 = j) (i : Nat) : (if i = j then true else sn pre i) = sn (pre ++ [x]) i := by
  unfold sn
  by_cases h : i = j
  · subst h
    rw [if_pos rfl]
    simp [hj]
  · rw [if_neg h]
    have : ¬ ((i : Int) = x.1.1) := by rw [hj]; omega
    simp [this]
/-- No granule is told twice. -/
def onceF {P : Fa → Prop} (pre : List { f : Fa // P f }) : Prop := (pre.map fun f => f.1.1).Nodup
theorem sn_twice {P : Fa → Prop} {pre : List { f : Fa // P f }} {x : { f : Fa // P f }} {j : Nat} (hj : x.1.1 = j) (hs : sn pre j = true) : ¬ onceF (pre ++ [x]) := by
  unfold onceF
  unfold sn at hs
  intro hn
  rw [List.map_append, List.nodup_append] at hn
  have hm : (j : Int) ∈ pre.map fun f => f.1.1 := by simpa using hs
  exact hn.2.2 _ hm x.1.1 (by simp) hj.symm

theorem onceF_snoc {P : Fa → Prop} {pre : List { f : Fa // P f }} {x : { f : Fa // P f }} {j : Nat} (hp : onceF pre) (hj : x.1.1 = j) (hs : sn pre j = false) : onceF (pre ++ [x]) := by
  unfold onceF at *
  unfold sn at hs
  have hm : ¬ (j : Int) ∈ pre.map fun f => f.1.1 := by simpa using hs
  rw [List.map_append, List.nodup_append]
  refine ⟨hp, by simp, fun a ha b hb => ?_⟩
  simp only [List.map_cons, List.map_nil, List.mem_singleton] at hb
  subst hb
  intro e
  rw [← hj, ← e] at hm
  exact hm ha
/-- A checker beside a table, the law's own boxes, and the marks of its ranges. -/
structure Fq (X : Nat → Prop) (n : Int) (m : Nat) (w0 w : World) (p pt gt bt : Nat) (v : Value) (s : CkS) (es : List En) (ds : List Nat) : Prop where
  lr : Lr X n m w0 w p pt gt v s es
  re : w.heap[w0.heap.size + 1]? = some (.cells #[.bool false] 4 (0, 0))
  tp : w.heap[bt]? = some (.cells #[.pointer (some ⟨pt, 0, none⟩)] 50 (0, 0))
  nd : ds.Nodup
  ds : ∀ D ∈ ds, w0.heap.size ≤ D ∧ gt < D ∧ w.heap[D]? = some (.deferred (some [])) ∧ X D
  xr : X (w0.heap.size + 1)
  xt : X bt
  ne : w0.heap.size + 1 < gt ∧ gt < bt
section
variable {X : Nat → Prop} {n : Int} {m : Nat} {w0 w w' : World} {p pt gt bt : Nat} {v v' : Value} {s s' : CkS} {es es' : List En} {ds : List Nat}
theorem Fq.go (h : Fq X n m w0 w p pt gt bt v s es ds) (hl : Lr X n m w0 w' p pt gt v' s' es') (k : Kg X gt w w') : Fq X n m w0 w' p pt gt bt v' s' es' ds := by
  obtain ⟨n1, n2⟩ := h.ne
  exact ⟨hl, (k.2 _ h.xr (by omega)).trans h.re, (k.2 _ h.xt (by omega)).trans h.tp, h.nd, fun D hD => by
    obtain ⟨d1, d2, d3, d4⟩ := h.ds D hD
    exact ⟨d1, d2, (k.2 D d4 (by omega)).trans d3, d4⟩, h.xr, h.xt, h.ne⟩
theorem Fq.ext (h : Fq X n m w0 w p pt gt bt v s es ds) (hb : Below w.heap.size w w') : Fq X n m w0 w' p pt gt bt v s es ds := h.go (h.lr.ext hb) (Kg.kp (h.lr.co.kp hb))
theorem Fq.with {b : Nat} (h : Fq X n m w0 w p pt gt bt v s es ds) (hb : Below w.heap.size w w') (h1 : w.heap.size ≤ b) (h2 : b < w'.heap.size) : Fq (fun k => X k ∨ k = b) n m w0 w' p pt gt bt v s es ds := by
  have h3 := h.ext hb
  exact ⟨h.lr.with hb h1 h2, h3.re, h3.tp, h3.nd, fun D hD => by
    obtain ⟨d1, d2, d3, d4⟩ := h3.ds D hD
    exact ⟨d1, d2, d3, .inl d4⟩, .inl h.xr, .inl h.xt, h.ne⟩
theorem Fq.mark {D : Nat} (h : Fq X n m w0 w p pt gt bt v s es ds) (hb : Below w.heap.size w w') (h1 : w.heap.size ≤ D) (h2 : w'.heap[D]? = some (.deferred (some []))) : Fq (fun k => X k ∨ k = D) n m w0 w' p pt gt bt v s es (D :: ds) := by
  have h3 := h.with hb h1 (lt_of h2)
  have hs := h.lr.below.size
  have hgt := h.lr.tb.gl
  refine ⟨h3.lr, h3.re, h3.tp, List.nodup_cons.2 ⟨fun hm => ?_, h3.nd⟩, fun E hE => ?_, h3.xr, h3.xt, h3.ne⟩
  · have := lt_of (h.ds D hm).2.2.1
    omega
  · rcases List.mem_cons.1 hE with rfl | hE
    · exact ⟨by omega, by omega, h2, .inr rfl⟩
    · exact h3.ds E hE
end

end Go.Proofs.Ytjggnhcdnfmmeaa
