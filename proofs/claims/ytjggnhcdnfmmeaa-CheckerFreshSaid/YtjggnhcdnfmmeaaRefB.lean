/- What this text holds: the document's answer for a checker begins and forgets: weakly. No condition. -/
import Derived.Test.YtjggnhcdnfmmeaaRefA
namespace Go.Proofs.Ytjggnhcdnfmmeaa
open Go.RowKit

/-- What a call leaves of the document's answer. -/
def RPost (w w' : World) (p : Nat) (u v : Value) (s : RfS) : Prop :=
  ∃ u' v' s', Rf w' p u' v' s' ∧ s'.en = s.en ∧ s'.gr = s.gr ∧ (s'.xs.length : Int) ≤ s.en ∧ T2 w w' p u.ownBlock v.ownBlock ∧ (∀ g, u'.ownBlock = some g → u.ownBlock = some g ∨ w.heap.size ≤ g) ∧ (∀ g, v'.ownBlock = some g → v.ownBlock = some g ∨ w.heap.size ≤ g)
theorem Rf.put {w w' : World} {p : Nat} {u v : Value} {s s' : RfS} (h : Rf w p u v s) (hx : s'.xs = s.xs) (hy : s'.ys = s.ys)
    (hb : w'.heap[p]? = some (.cells #[.int .i64 s'.en, .int .i64 s'.gr, u, v, .int .i64 s'.wk, .int .i64 s'.a, .bool s'.st] 95 (0, 0))) (ho : ∀ k, k ≠ p → w'.heap[k]? = w.heap[k]?) : Rf w' p u v s' := by
  refine ⟨hb, ?_, ?_, ?_, ?_, h.nu, h.nv, h.uv⟩
  · rw [hx]; exact h.gx.keep (fun g hg => ho g (fun e => h.nu (by rw [hg, e])))
  · rw [hy]; exact h.gy.keep (fun g hg => ho g (fun e => h.nv (by rw [hg, e])))
  · rw [hx, hy]; exact h.len
  · rw [hx]; exact h.le
theorem Rf.same {w w' : World} {p : Nat} {u v : Value} {s : RfS} (h : Rf w p u v s) (hb : Below w.heap.size w w') (hl : (s.xs.length : Int) ≤ s.en) : RPost w w' p u v s :=
  ⟨u, v, s, h.ext hb, rfl, rfl, hl, T2.of_below hb, fun _ h => .inl h, fun _ h => .inl h⟩

theorem Rf.wrote {w w1 w2 : World} {p : Nat} {u v : Value} {s : RfS} (h : Rf w1 p u v s) (hb : Below w.heap.size w w1) (hl : (s.xs.length : Int) ≤ s.en) (s' : RfS) (hx : s'.xs = s.xs) (hy : s'.ys = s.ys) (he : s'.en = s.en) (hg : s'.gr = s.gr)
    (hk : w2.heap[p]? = some (.cells #[.int .i64 s'.en, .int .i64 s'.gr, u, v, .int .i64 s'.wk, .int .i64 s'.a, .bool s'.st] 95 (0, 0))) (ho : ∀ k, k ≠ p → w2.heap[k]? = w1.heap[k]?) (e1 : w2.os = w1.os) (e2 : w2.tape = w1.tape) (e3 : w2.output = w1.output) (e4 : w2.heap.size = w1.heap.size) : RPost w w2 p u v s :=
  ⟨u, v, s', h.put hx hy hk ho, he, hg, by rw [hx]; exact hl, ⟨e1.trans hb.os, e2.trans hb.tape, e3.trans hb.output, by rw [e4]; exact hb.size, fun k hk h1 _ _ => (ho k h1).trans (hb.block k hk)⟩, fun _ h => .inl h, fun _ h => .inl h⟩

theorem rbegin (p : Nat) (u v : Value) (s : RfS) (g : Int) (w : World) (h : Rf w p u v s) (hl : (s.xs.length : Int) ≤ s.en) :
    Calls Try.prog 35 #[.pointer (some ⟨p, 0, none⟩), .int .i64 g] w fun e w' => (∃ a b : Int, e = .returned (.tuple #[.int .i64 a, .int .i64 b])) ∧ RPost w w' p u v s := by
  have H := Lib.hid h
  have c1 := h.cells.2.1
  have hlt := h.lt
  clear h
  by_cases h1 : g < 0
  · have e1 : decide (g < 0) = true := by simpa using h1
    go_enter Try.func35, Try.ntmps35
    go_wp2_with fail
    go_ret2
    exact ⟨⟨_, _, rfl⟩, H.out.same (Below.refl _ _) hl⟩
  · have e1 : decide (g < 0) = false := by simp; omega
    by_cases h2 : s.gr ≤ g
    · have e2 : decide (g ≥ s.gr) = true := by simp; omega
      go_enter Try.func35, Try.ntmps35
      go_wp2_with fail
      go_ret2
      exact ⟨⟨_, _, rfl⟩, H.out.same (Below.refl _ _) hl⟩
    · have e2 : decide (g ≥ s.gr) = false := by simp; omega
      go_enter Try.func35, Try.ntmps35
      go_wp2_with fail
      refine (rplace p u v s g w H.out).mono ?_
      rintro e w1 ⟨⟨r, rfl, hr1, hr2⟩, hb⟩
      have HB := Lib.hid hb
      have hR := H.out.ext hb
      have H1 := Lib.hid hR
      have hlt1 := hR.lt
      have c4 := hR.cells.2.2.2.2.1
      have hf := hR.free
      clear hR hb c1
      by_cases h3 : 0 ≤ r
      · have e3 : decide (r ≥ 0) = true := by simpa using h3
        go_wp2_with fail
        go_ret2
        exact ⟨⟨_, _, rfl⟩, H.out.same HB.out hl⟩
      · have e3 : decide (r ≥ 0) = false := by simp; omega
        by_cases h4 : 0 ≤ s.wk
        · have e4 : decide (s.wk ≥ 0) = true := by simpa using h4
          go_wp2_with fail
          go_ret2
          exact ⟨⟨_, _, rfl⟩, H.out.same HB.out hl⟩
        · have e4 : decide (s.wk ≥ 0) = false := by simp; omega
          have hb1 := H1.out.blk
          have s1 := Joins.block_setCell (i := 6) (Joins.block_setCell (i := 5) (Joins.block_setCell (i := 4) hb1 (.int .i64 g)) (.int .i64 (wrap64 (g.tdiv 4)))) (.bool false)
          have c5 := H1.out.cells.2.2.2.2.2.1
          have c6 := H1.out.cells.2.2.2.2.2.2
          have HS := Lib.hid s1
          clear hb1 s1
          go_wp2_with fail
          go_ret2
          refine ⟨⟨_, _, rfl⟩, H1.out.wrote HB.out hl ⟨s.en, s.gr, g, wrap64 (g.tdiv 4), false, s.xs, s.ys⟩ rfl rfl rfl rfl (by simpa using HS.out) (fun k hk => ?_) rfl rfl rfl (by simp)⟩
          rw [Below.heap_setCell _ _ _ _ hk, Below.heap_setCell _ _ _ _ hk, Below.heap_setCell _ _ _ _ hk]

end Go.Proofs.Ytjggnhcdnfmmeaa
