/- What this text holds: lists of turns as arguments. No condition. -/
import Derived.Test.YtjggnhcdnfmmeaaOpenL
import Derived.Test.YtjggnhcdnfmmeaaOpenI
import Derived.Test.YtjggnhcdnfmmeaaTu09
namespace Go.Proofs.Ytjggnhcdnfmmeaa
open Go.ChangeShapes Go.WideShapes Go.ChangeAt Go.RowKit Go.Deep

section
variable {H : Type} {enc : TypeId × Value → H} {w : World} {base : Nat} {sp : Nat → Bool} {held : Bool}
set_option maxRecDepth 100000 in
theorem open_slU {r : Reach} {b0 : Nat} {v : Value} {x : DataW H} {p : List MemPlace}
    (hv : Value.okWide Try.prog w r b0 59 v) (h : DataW.Trod enc Try.prog w base sp held 59 v x p) :
    ∃ (A : Option Addr) (cap : Nat) (l : List Tu), v = .slice A l.length cap ∧ SlU w A l := by
  obtain ⟨a0, len0, cap0, rfl⟩ := okWide_slice Try.underlying59 hv
  obtain ⟨fuel, hf⟩ := h
  have hf' : DataW.trod enc Try.prog w base sp held fuel 59 [.slice a0 len0 cap0] = some (x, p) := hf
  obtain ⟨A, cap, l, hcs, hlc, hcm, _, hr⟩ := open_list (d := 5) (⟨0, 0, 0, false⟩ : Tu) (fun (o : Tu) es => es = [.int .i64 o.d, .int .i64 o.g, .int .i64 o.o, .bool o.l]) Try.underlying59 (ts := [3, 3, 3, 4]) (by kernel_rfl) (by kernel_rfl) (by decide) (fun es hl => by
    obtain ⟨k, h0, _⟩ := hl.int (i := 0) rfl Try.underlying3
    obtain ⟨g, h1, _⟩ := hl.int (i := 1) rfl Try.underlying3
    obtain ⟨x, h2, _⟩ := hl.int (i := 2) rfl Try.underlying3
    obtain ⟨y, h3⟩ := hl.bool (i := 3) rfl Try.underlying4
    have hlen := hl.1
    match es, hlen with
    | [e0, e1, e2, e3], _ =>
      simp at h0 h1 h2 h3
      exact ⟨⟨k, g, x, y⟩, by simp [h0, h1, h2, h3]⟩) hf'
  simp only [List.cons.injEq, and_true] at hcs
  refine ⟨A, cap, l, hcs, fun h0 => ?_⟩
  obtain ⟨b, off, hA, hb, hi⟩ := hr h0
  refine ⟨b, off, hA, hb, fun i hil => ?_⟩
  obtain ⟨es, rfl, hl, hc⟩ := hi i hil
  exact ⟨hc 0 (by decide), hc 1 (by decide), hc 2 (by decide), hc 3 (by decide)⟩
end

end Go.Proofs.Ytjggnhcdnfmmeaa
