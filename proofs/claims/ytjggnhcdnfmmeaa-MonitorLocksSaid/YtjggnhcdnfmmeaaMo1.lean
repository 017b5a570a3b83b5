/- What this text holds: a monitor beside boxes that no call of it turns. No condition. -/
import Derived.Test.YtjggnhcdnfmmeaaMo2
namespace Go.Proofs.Ytjggnhcdnfmmeaa
open Go.RowKit Go.Maps

/-- A monitor of the law's own, and boxes. -/
structure Mb (w W : World) (p t g b : Nat) (n : Int) (M : Nat) (s : Ms) (bs : List (Nat × Obj)) : Prop where
  m : ∃ B, Mn W B p t g b n M s ∧ w.heap.size ≤ B
  be : Below w.heap.size w W
  bx : ∀ x ∈ bs, W.heap[x.1]? = some x.2 ∧ x.1 ≠ g ∧ x.1 ≠ b
section
variable {w W W' : World} {p t g b M M1 : Nat} {n : Int} {s s1 : Ms} {bs bs' : List (Nat × Obj)}
theorem Mb.ext (h : Mb w W p t g b n M s bs) (hb : Below W.heap.size W W') : Mb w W' p t g b n M s bs := by
  obtain ⟨⟨B, m1, m2⟩, be, bx⟩ := h
  exact ⟨⟨B, m1.ext hb, m2⟩, ext_trans be hb, fun x hx => ⟨(hb.block _ (lt_of (bx x hx).1)).trans (bx x hx).1, (bx x hx).2⟩⟩
theorem Mb.sub (h : Mb w W p t g b n M s bs) (hs : ∀ x ∈ bs', x ∈ bs) : Mb w W p t g b n M s bs' := ⟨h.m, h.be, fun x hx => h.bx x (hs x hx)⟩
theorem Mb.go (h : Mb w W p t g b n M s bs) (h1 : ∀ B, Mn W B p t g b n M s → Mn W' B p t g b n M1 s1) (h2 : Gt W W' g b) : Mb w W' p t g b n M1 s1 bs := by
  obtain ⟨⟨B, m1, m2⟩, be, bx⟩ := h
  exact ⟨⟨B, h1 B m1, m2⟩, h2.below be (Nat.le_trans m2 m1.lo.2.2.1) (Nat.le_trans m2 m1.lo.2.2.2), fun x hx => ⟨(h2.block _ (lt_of (bx x hx).1) (bx x hx).2.1 (bx x hx).2.2).trans (bx x hx).1, (bx x hx).2⟩⟩
theorem Mb.push (h : Mb w W p t g b n M s bs) (o : Obj) : Mb w (W.alloc o) p t g b n M s ((W.heap.size, o) :: bs) := by
  have h2 := h.ext (ext_alloc o (Below.refl _ W))
  obtain ⟨B, m1, m2⟩ := h.m
  refine ⟨h2.m, h2.be, fun x hx => ?_⟩
  rcases List.mem_cons.1 hx with rfl | hx
  · have := m1.lt
    exact ⟨alNew rfl, by show W.heap.size ≠ g; omega, by show W.heap.size ≠ b; omega⟩
  · exact h2.bx x hx
/-- A box that is laid down there too. -/
theorem Mb.add (h : Mb w W p t g b n M s bs) {X : Nat} {o : Obj} (hx : W.heap[X]? = some o) (h1 : X ≠ g ∧ X ≠ b) : Mb w W p t g b n M s ((X, o) :: bs) :=
  ⟨h.m, h.be, fun x hm => by
    rcases List.mem_cons.1 hm with rfl | hm
    · exact ⟨hx, h1⟩
    · exact h.bx x hm⟩
/-- A box outside was written. -/
theorem Mb.off (h : Mb w W p t g b n M s bs) {X : Nat} (hs : W.heap.size ≤ W'.heap.size) (hk : ∀ q, q ≠ X → W'.heap[q]? = W.heap[q]?) (hX : X ≠ p ∧ X ≠ t ∧ X ≠ g ∧ X ≠ b) (hbs : ∀ x ∈ bs, x.1 ≠ X) (hb : Below w.heap.size w W') : Mb w W' p t g b n M s bs := by
  obtain ⟨⟨B, m1, m2⟩, be, bx⟩ := h
  exact ⟨⟨B, m1.keep hs (hk p (Ne.symm hX.1)) (hk t (Ne.symm hX.2.1)) (hk g (Ne.symm hX.2.2.1)) (hk b (Ne.symm hX.2.2.2)), m2⟩, hb, fun x hx => ⟨(hk _ (hbs x hx)).trans (bx x hx).1, (bx x hx).2⟩⟩
theorem Mb.call (h : Mb w W p t g b n M s bs) (hM : M < 1000) (a : Ak) : Calls Try.prog 30 #[.pointer (some ⟨p, 0, none⟩), a.val] W fun e W' => e = .returned (.tuple #[.bool ((s.call n a).1 == 0), .int .i64 (s.call n a).1]) ∧ Mb w W' p t g b n (M + 1) (s.call n a).2 bs := by
  obtain ⟨B, m1, m2⟩ := h.m
  refine (mcall_any m1 hM a).mono fun e W' ⟨he, h1, h2⟩ => ⟨he, h.go (fun B2 hm => ?_) h2⟩
  exact ⟨h1.ok, h1.hn, h1.box, h1.tb, h1.mp, h1.ne, hm.lo⟩
theorem Mb.drop (h : Mb w W p t g b n M s bs) (hM : M < 1000) (k co : Int) : Calls Try.prog 31 #[.pointer (some ⟨p, 0, none⟩), .int .i64 k, .int .i64 co] W fun e W' => e = .returned (.tuple #[.bool (s.drop n k co).1, .int .i64 (s.drop n k co).2.1]) ∧ Mb w W' p t g b n (M + 1) (s.drop n k co).2.2 bs := by
  obtain ⟨B, m1, m2⟩ := h.m
  refine (mdrop_any m1 hM k co).mono fun e W' ⟨he, h1, h2⟩ => ⟨he, h.go (fun B2 hm => ?_) h2⟩
  exact ⟨h1.ok, h1.hn, h1.box, h1.tb, h1.mp, h1.ne, hm.lo⟩
theorem Mb.swept (h : Mb w W p t g b n M s bs) (k : Int) : Calls Try.prog 32 #[.pointer (some ⟨p, 0, none⟩), .int .i64 k] W fun e W' => e = .returned (.tuple #[(s.swept k).1.val, .int .i64 (s.swept k).2.1]) ∧ Mb w W' p t g b n M (s.swept k).2.2 bs := by
  obtain ⟨B, m1, m2⟩ := h.m
  refine (mswept_any m1 k).mono fun e W' ⟨he, h1, h2⟩ => ⟨he, h.go (fun B2 hm => ?_) h2⟩
  exact ⟨h1.ok, h1.hn, h1.box, h1.tb, h1.mp, h1.ne, hm.lo⟩
theorem Mb.phase (h : Mb w W p t g b n M s bs) (k : Int) (hk : (Lit.int .i64 k).wf = true) : Calls Try.prog 33 #[.pointer (some ⟨p, 0, none⟩), .int .i64 k] W fun e w' => e = .returned (.int .i64 (ruO (s.F k)).ph) ∧ w' = W := by
  obtain ⟨B, m1, m2⟩ := h.m
  exact mphase_any m1 k hk
theorem Mb.get (h : Mb w W p t g b n M s bs) (k : Int) (hk : 0 ≤ k ∧ k < s.es.length) : Calls Try.prog 25 #[.pointer (some ⟨t, 0, none⟩), .int .i64 k] W fun e w' => e = .returned (.tuple #[.agg #[.int .i64 (atE s.es k.toNat).1, .bool (atE s.es k.toNat).2], .int .i64 0]) ∧ Below W.heap.size W w' := by
  obtain ⟨B, m1, m2⟩ := h.m
  exact get_yes t g s.es k W m1.tb hk.1 hk.2
theorem Mb.cells (h : Mb w W p t g b n M s bs) : W.cell? ⟨p, 0, none⟩ = some (.pointer (some ⟨t, 0, none⟩)) ∧ p < W.heap.size := by
  obtain ⟨B, m1, m2⟩ := h.m
  exact ⟨m1.cells.1, m1.lt.1⟩
end
/-- A call that is answered with an error turns nothing. -/
theorem call_same {s : Ms} {n : Int} {a : Ak} (h : (s.call n a).1 ≠ 0) : (s.call n a).2 = s := by
  by_cases c1 : a.co < 0 ∨ n ≤ a.co
  · unfold Ms.call; rw [if_pos c1]
  by_cases c2 : a.gr < 0 ∨ s.es.length ≤ a.gr
  · unfold Ms.call; rw [if_neg c1, if_pos c2]
  by_cases c3 : (s.F a.gr).isSome
  · unfold Ms.call; rw [if_neg c1, if_neg c2, if_pos c3]
  by_cases c4 : busyC s.F a.co
  · unfold Ms.call; rw [if_neg c1, if_neg c2, if_neg c3, if_pos c4]
  by_cases c5 : (judge a.ca a.wo (atE s.es a.gr.toNat).1 a.to).2.2 ≠ 0
  · unfold Ms.call; rw [if_neg c1, if_neg c2, if_neg c3, if_neg c4, if_pos c5]
  exact absurd (by unfold Ms.call; rw [if_neg c1, if_neg c2, if_neg c3, if_neg c4, if_neg c5]) h

end Go.Proofs.Ytjggnhcdnfmmeaa
