/- What this text holds: slices of structs of scalars as arguments. No condition. -/
import Derived.Test.YtkfnjpmigifomaaDoorOpenI
namespace Go.Proofs.YtkfnjpmigifomaaDoor
open Go.ChangeShapes Go.WideShapes Go.ChangeAt Go.RowKit Go.Deep

section
variable {H : Type} {enc : TypeId × Value → H} {w : World} {base : Nat} {sp : Nat → Bool} {held : Bool}
theorem open_rows {t e : TypeId} {ts : List TypeId} {d fuel : Nat} {cs : List Value} {x : DataW H × List MemPlace} (ht : Tryd.prog.underlying t = some (.slice e)) (hl : leafT Tryd.prog d e = some ts) (hC : Tryd.prog.cellsOf e = ts.length) (hpos : 0 < ts.length)
    (h : DataW.trod enc Tryd.prog w base sp held fuel t cs = some x) :
    ∃ (A : Option Addr) (len cap : Nat), cs = [.slice A len cap] ∧ len ≤ cap ∧ cap ≤ maxLen ∧
      (0 < len → ∃ b off, A = some ⟨b, off, none⟩ ∧ b < w.heap.size ∧ ∀ i, i < len → ∃ es : List Value, Leafs enc Tryd.prog w base sp held ts es ∧ ∀ j, j < ts.length → w.cell? ⟨b, off + i * ts.length + j, none⟩ = es[j]?) := by
  rcases open_slice ht h with ⟨hcs, _⟩ | ⟨a, len, cap, m, n, D, Pl, hcs, _, hle, hm, hmm, _, hi⟩
  · exact ⟨none, 0, 0, hcs, Nat.le_refl _, Nat.zero_le _, fun h => absurd h (by simp)⟩
  · refine ⟨some a, len, cap, hcs, hle, hm, fun h0 => ?_⟩
    have hlm : len ≤ m := by rw [hmm]; split <;> omega
    have key : ∀ i, i < len → ∃ es : List Value, Leafs enc Tryd.prog w base sp held ts es ∧ ∀ j, j < ts.length → w.cell? (a.add (i * ts.length + j)) = es[j]? := by
      intro i hil
      obtain ⟨cs', hc, ht'⟩ := hi i (by omega)
      obtain ⟨_, hcl, hat⟩ := World.cells?_some hc
      refine ⟨cs', trod_leafs d n e ts cs' _ hl ht' (by rw [hcl]), fun j hj => ?_⟩
      rw [← hat j (by rw [hC]; exact hj), add_add, hC]
    obtain ⟨b, off, spot⟩ := a
    have hspot : spot = none := by
      obtain ⟨es, hlf, hc⟩ := key 0 h0
      have h1 := hc 0 hpos
      have h2 : es[0]? = some (es[0]'(by rw [hlf.1]; exact hpos)) := List.getElem?_eq_getElem _
      rw [h2] at h1
      simpa [Addr.add] using World.cell?_spot h1
    subst hspot
    refine ⟨b, off, rfl, ?_, fun i hil => ?_⟩
    · obtain ⟨es, hlf, hc⟩ := key 0 h0
      have h1 := hc 0 hpos
      have h2 : es[0]? = some (es[0]'(by rw [hlf.1]; exact hpos)) := List.getElem?_eq_getElem _
      rw [h2, Addr.add_lit] at h1
      exact World.block_lt_of_cell? w _ h1
    · obtain ⟨es, hlf, hc⟩ := key i hil
      refine ⟨es, hlf, fun j hj => ?_⟩
      rw [← hc j hj, Addr.add_lit, Nat.add_assoc]
end

end Go.Proofs.YtkfnjpmigifomaaDoor
