/- What this text holds: lists of entries as arguments. No condition. -/
import Derived.Test.YtjggnhcdnfmmeaaOpenL
import Derived.Test.YtjggnhcdnfmmeaaL09D
namespace Go.Proofs.Ytjggnhcdnfmmeaa
open Go.ChangeShapes Go.WideShapes Go.ChangeAt Go.RowKit Go.Deep

section
variable {H : Type} {enc : TypeId × Value → H} {w : World} {base : Nat} {sp : Nat → Bool} {held : Bool}
set_option maxRecDepth 100000 in
theorem open_slT {r : Reach} {b0 : Nat} {v : Value} {x : DataW H} {p : List MemPlace}
    (hv : Value.okWide Try.prog w r b0 49 v) (h : DataW.Trod enc Try.prog w base sp held 49 v x p) :
    ∃ (A : Option Addr) (cap : Nat) (l : List En), v = .slice A l.length cap ∧ SlT w A l ∧ l.length ≤ maxLen := by
  obtain ⟨a0, len0, cap0, rfl⟩ := okWide_slice Try.underlying49 hv
  obtain ⟨fuel, hf⟩ := h
  have hf' : DataW.trod enc Try.prog w base sp held fuel 49 [.slice a0 len0 cap0] = some (x, p) := hf
  obtain ⟨A, cap, l, hcs, hlc, hcm, _, hr⟩ := open_list (d := 5) ((0, false) : En) (fun (o : En) es => es = [.int .i64 o.1, .bool o.2]) Try.underlying49 (ts := [3, 4]) (by kernel_rfl) (by kernel_rfl) (by decide) (fun es hl => by
    obtain ⟨k, h0, _⟩ := hl.int (i := 0) rfl Try.underlying3
    obtain ⟨g, h1⟩ := hl.bool (i := 1) rfl Try.underlying4
    have hlen := hl.1
    match es, hlen with
    | [e0, e1], _ =>
      simp at h0 h1
      exact ⟨(k, g), by simp [h0, h1]⟩) hf'
  simp only [List.cons.injEq, and_true] at hcs
  refine ⟨A, cap, l, hcs, fun h0 => ?_, Nat.le_trans hlc hcm⟩
  obtain ⟨b, off, hA, hb, hi⟩ := hr h0
  refine ⟨b, off, hA, hb, fun i hil => ?_⟩
  obtain ⟨es, rfl, hl, hc⟩ := hi i hil
  exact ⟨hc 0 (by decide), hc 1 (by decide)⟩
end

end Go.Proofs.Ytjggnhcdnfmmeaa
