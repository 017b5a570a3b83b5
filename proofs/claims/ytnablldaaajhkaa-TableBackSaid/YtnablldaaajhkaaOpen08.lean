/- What this text holds: calls of the table's statements as arguments. No condition. -/
import Derived.Test.YtnablldaaajhkaaOpenI
namespace Go.Proofs.Ytnablldaaajhkaa
open Go.ChangeShapes Go.WideShapes Go.ChangeAt Go.RowKit Go.Deep

section
variable {H : Type} {enc : TypeId × Value → H} {w : World} {base : Nat} {sp : Nat → Bool} {held : Bool}
theorem open_op8 {r : Reach} {b0 : Nat} {v : Value} {x : DataW H} {p : List MemPlace}
    (hv : Value.okWide Try.prog w r b0 59 v) (h : DataW.Trod enc Try.prog w base sp held 59 v x p) :
    ∃ (g o : Int) (l : Bool), v = .agg #[.int .i64 g, .int .i64 o, .bool l] ∧ (Lit.int .i64 g).wf = true ∧ (Lit.int .i64 o).wf = true := by
  obtain ⟨cs, rfl, hl⟩ := open_leafs (d := 5) (ts := [3, 3, 4]) (by kernel_rfl) ⟨_, Try.underlying59, trivial⟩ hv h
  obtain ⟨l⟩ := cs
  obtain ⟨a0, h0, w0⟩ := hl.int (i := 0) rfl Try.underlying3
  obtain ⟨a1, h1, w1⟩ := hl.int (i := 1) rfl Try.underlying3
  obtain ⟨a2, h2⟩ := hl.bool (i := 2) rfl Try.underlying4
  have hlen := hl.1
  match l, hlen with
  | [c0, c1, c2], _ =>
    simp at h0 h1 h2
    exact ⟨a0, a1, a2, by simp [h0, h1, h2], w0, w1⟩
end

end Go.Proofs.Ytnablldaaajhkaa
