/- What this text holds: calls of the banks' statements, and lists of them, as arguments. No condition. -/
import Derived.Test.YtkfnjpmigifomaaDoorOpenL
import Derived.Test.YtkfnjpmigifomaaDoorOpen01
import Derived.Test.YtkfnjpmigifomaaDoorL02D
namespace Go.Proofs.YtkfnjpmigifomaaDoor
open Go.ChangeShapes Go.WideShapes Go.ChangeAt Go.RowKit Go.Deep

section
variable {H : Type} {enc : TypeId × Value → H} {w : World} {base : Nat} {sp : Nat → Bool} {held : Bool}
set_option maxRecDepth 100000 in
theorem leaf_op2 {es : List Value} (h : Leafs enc Tryd.prog w base sp held [3, 3, 3, 3, 3] es) : ∃ o : Op2, es = [.int .i64 o.ask, .int .i64 o.at', .int .i64 o.v, .int .i64 o.a, .int .i64 o.b] := by
  obtain ⟨a0, h0, _⟩ := h.int (i := 0) rfl Tryd.underlying3
  obtain ⟨a1, h1, _⟩ := h.int (i := 1) rfl Tryd.underlying3
  obtain ⟨a2, h2, _⟩ := h.int (i := 2) rfl Tryd.underlying3
  obtain ⟨a3, h3, _⟩ := h.int (i := 3) rfl Tryd.underlying3
  obtain ⟨a4, h4, _⟩ := h.int (i := 4) rfl Tryd.underlying3
  have hlen := h.1
  match es, hlen with
  | [c0, c1, c2, c3, c4], _ =>
    simp at h0 h1 h2 h3 h4
    exact ⟨⟨a0, a1, a2, a3, a4⟩, by simp [h0, h1, h2, h3, h4]⟩
set_option maxRecDepth 100000 in
theorem open_op2 {r : Reach} {b0 : Nat} {v : Value} {x : DataW H} {p : List MemPlace}
    (hv : Value.okWide Tryd.prog w r b0 28 v) (h : DataW.Trod enc Tryd.prog w base sp held 28 v x p) : ∃ o : Op2, v = o.val := by
  obtain ⟨cs, rfl, hl⟩ := open_leafs (d := 5) (ts := [3, 3, 3, 3, 3]) (by kernel_rfl) ⟨_, Tryd.underlying28, trivial⟩ hv h
  obtain ⟨l⟩ := cs
  obtain ⟨o, ho⟩ := leaf_op2 hl
  exact ⟨o, by simp at ho; rw [ho]⟩
set_option maxRecDepth 100000 in
theorem open_slOp2 {r : Reach} {b0 : Nat} {v : Value} {x : DataW H} {p : List MemPlace}
    (hv : Value.okWide Tryd.prog w r b0 24 v) (h : DataW.Trod enc Tryd.prog w base sp held 24 v x p) :
    ∃ (A : Option Addr) (cap : Nat) (l : List Op2), v = .slice A l.length cap ∧ Sl5 w A l := by
  obtain ⟨a0, len0, cap0, rfl⟩ := okWide_slice Tryd.underlying24 hv
  obtain ⟨fuel, hf⟩ := h
  have hf' : DataW.trod enc Tryd.prog w base sp held fuel 24 [.slice a0 len0 cap0] = some (x, p) := hf
  obtain ⟨A, cap, l, hcs, _, _, _, hr⟩ := open_list (d := 5) (⟨0, 0, 0, 0, 0⟩ : Op2) (fun (o : Op2) es => es = [.int .i64 o.ask, .int .i64 o.at', .int .i64 o.v, .int .i64 o.a, .int .i64 o.b]) Tryd.underlying24 (ts := [3, 3, 3, 3, 3]) (by kernel_rfl) (by kernel_rfl) (by decide) (fun es hl => leaf_op2 hl) hf'
  simp only [List.cons.injEq, and_true] at hcs
  refine ⟨A, cap, l, hcs, fun h0 => ?_⟩
  obtain ⟨b, off, hA, hb, hi⟩ := hr h0
  refine ⟨b, off, hA, hb, fun i hil => ?_⟩
  obtain ⟨es, rfl, _, hc⟩ := hi i hil
  exact ⟨_, hc 0 (by decide), hc 1 (by decide), hc 2 (by decide), hc 3 (by decide), hc 4 (by decide)⟩
end

end Go.Proofs.YtkfnjpmigifomaaDoor
