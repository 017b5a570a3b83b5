/- What this text holds: lists of calls of the table's statements as arguments. No condition. -/
import Derived.Test.YtnablldaaajhkaaOpenR
import Derived.Test.YtnablldaaajhkaaOpen08
import Derived.Test.YtnablldaaajhkaaLaw08
namespace Go.Proofs.Ytnablldaaajhkaa
open Go.ChangeShapes Go.WideShapes Go.ChangeAt Go.RowKit Go.Deep

section
variable {H : Type} {enc : TypeId × Value → H} {w : World} {base : Nat} {sp : Nat → Bool} {held : Bool}
theorem open_slO {r : Reach} {b0 : Nat} {v : Value} {x : DataW H} {p : List MemPlace}
    (hv : Value.okWide Try.prog w r b0 55 v) (h : DataW.Trod enc Try.prog w base sp held 55 v x p) :
    ∃ (A : Option Addr) (cap : Nat) (ops : List Op8), v = .slice A ops.length cap ∧ SlO w A ops := by
  obtain ⟨a0, len0, cap0, rfl⟩ := okWide_slice Try.underlying55 hv
  obtain ⟨fuel, hf⟩ := h
  have hf' : DataW.trod enc Try.prog w base sp held fuel 55 [.slice a0 len0 cap0] = some (x, p) := hf
  obtain ⟨A, len, cap, hcs, _, _, hr⟩ := open_rows (d := 5) (ts := [3, 3, 4]) Try.underlying55 (by kernel_rfl) (by kernel_rfl) (by decide) hf'
  simp only [List.cons.injEq, and_true] at hcs
  by_cases h0 : 0 < len
  · obtain ⟨b, off, rfl, hb, hi⟩ := hr h0
    have key : ∀ i, ∃ o : Op8, i < len → w.cell? ⟨b, off + i * 3, none⟩ = some (.int .i64 o.1) ∧ w.cell? ⟨b, off + i * 3 + 1, none⟩ = some (.int .i64 o.2.1) ∧ w.cell? ⟨b, off + i * 3 + 2, none⟩ = some (.bool o.2.2) := by
      intro i
      by_cases hil : i < len
      · obtain ⟨es, hlf, hc⟩ := hi i hil
        obtain ⟨z0, e0, _⟩ := hlf.int (i := 0) rfl Try.underlying3
        obtain ⟨z1, e1, _⟩ := hlf.int (i := 1) rfl Try.underlying3
        obtain ⟨z2, e2⟩ := hlf.bool (i := 2) rfl Try.underlying4
        exact ⟨(z0, z1, z2), fun _ => ⟨(hc 0 (by decide)).trans e0, (hc 1 (by decide)).trans e1, (hc 2 (by decide)).trans e2⟩⟩
      · exact ⟨(0, 0, false), fun h => absurd h hil⟩
    obtain ⟨F, hF⟩ := Classical.axiomOfChoice key
    refine ⟨_, cap, (List.range len).map F, ?_, fun _ => ⟨b, off, rfl, hb, fun i hil => ?_⟩⟩
    · rw [hcs]
      simp
    · have hil' : i < len := by simpa using hil
      have e : atO ((List.range len).map F) i = F i := by simp [atO, hil']
      rw [e]
      exact hF i hil'
  · obtain rfl : len = 0 := by omega
    exact ⟨A, cap, [], by rw [hcs]; rfl, fun h => absurd h (by simp)⟩
end

end Go.Proofs.Ytnablldaaajhkaa
