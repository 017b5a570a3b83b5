/- What this text holds: calls of the checker's statements as arguments. No condition. -/
import Derived.Test.YtjggnhcdnfmmeaaOpen
namespace Go.Proofs.Ytjggnhcdnfmmeaa
open Go.ChangeShapes Go.WideShapes Go.ChangeAt Go.RowKit Go.Deep

section
variable {H : Type} {enc : TypeId × Value → H} {w : World} {base : Nat} {sp : Nat → Bool} {held : Bool}
set_option maxRecDepth 100000 in
theorem open_op9 {r : Reach} {b0 : Nat} {v : Value} {x : DataW H} {p : List MemPlace}
    (hv : Value.okWide Try.prog w r b0 35 v) (h : DataW.Trod enc Try.prog w base sp held 35 v x p) :
    ∃ (a g x y : Int), v = .agg #[.int .i64 a, .int .i64 g, .int .i64 x, .int .i64 y] ∧ (Lit.int .i64 a).wf = true ∧ (Lit.int .i64 g).wf = true ∧ (Lit.int .i64 x).wf = true ∧ (Lit.int .i64 y).wf = true := by
  obtain ⟨cs, rfl, hl⟩ := open_leafs (d := 5) (ts := [3, 3, 3, 3]) (by kernel_rfl) ⟨_, Try.underlying35, trivial⟩ hv h
  obtain ⟨l⟩ := cs
  obtain ⟨a0, h0, w0⟩ := hl.int (i := 0) rfl Try.underlying3
  obtain ⟨a1, h1, w1⟩ := hl.int (i := 1) rfl Try.underlying3
  obtain ⟨a2, h2, w2⟩ := hl.int (i := 2) rfl Try.underlying3
  obtain ⟨a3, h3, w3⟩ := hl.int (i := 3) rfl Try.underlying3
  have hlen := hl.1
  match l, hlen with
  | [c0, c1, c2, c3], _ =>
    simp at h0 h1 h2 h3
    exact ⟨a0, a1, a2, a3, by simp [h0, h1, h2, h3], w0, w1, w2, w3⟩
end

end Go.Proofs.Ytjggnhcdnfmmeaa
