/- What this text holds: slices of structs as arguments, as lists. No condition. -/
import Derived.Test.YtkfnjpmigifomaaDoorOpenR
namespace Go.Proofs.YtkfnjpmigifomaaDoor
open Go.ChangeShapes Go.WideShapes Go.ChangeAt Go.RowKit Go.Deep

section
variable {H : Type} {enc : TypeId × Value → H} {w : World} {base : Nat} {sp : Nat → Bool} {held : Bool}
theorem open_list {α : Type} (x0 : α) (Q : α → List Value → Prop) {t e : TypeId} {ts : List TypeId} {d fuel : Nat} {cs : List Value} {x : DataW H × List MemPlace} (ht : Tryd.prog.underlying t = some (.slice e)) (hl : leafT Tryd.prog d e = some ts) (hC : Tryd.prog.cellsOf e = ts.length) (hpos : 0 < ts.length)
    (hQ : ∀ es, Leafs enc Tryd.prog w base sp held ts es → ∃ x : α, Q x es)
    (h : DataW.trod enc Tryd.prog w base sp held fuel t cs = some x) :
    ∃ (A : Option Addr) (cap : Nat) (xs : List α), cs = [.slice A xs.length cap] ∧ xs.length ≤ cap ∧ cap ≤ maxLen ∧ (A = none → cap = 0) ∧
      (0 < xs.length → ∃ b off, A = some ⟨b, off, none⟩ ∧ b < w.heap.size ∧ ∀ i, i < xs.length → ∃ es : List Value, Q (xs[i]?.getD x0) es ∧ es.length = ts.length ∧ ∀ j, j < ts.length → w.cell? ⟨b, off + i * ts.length + j, none⟩ = es[j]?) := by
  have hnone : ∀ A len cap, cs = [.slice A len cap] → A = none → cap = 0 := by
    intro A len cap he h0
    subst h0
    rcases open_slice ht h with ⟨h1, _⟩ | ⟨a, len', cap', _, _, _, _, h1, _⟩
    · rw [he] at h1
      simp at h1
      exact h1.2
    · rw [he] at h1
      simp at h1
  obtain ⟨A, len, cap, hcs, hlc, hcm, hr⟩ := open_rows ht hl hC hpos h
  by_cases h0 : 0 < len
  · obtain ⟨b, off, rfl, hb, hi⟩ := hr h0
    have key : ∀ i, ∃ o : α, i < len → ∃ es : List Value, Q o es ∧ es.length = ts.length ∧ ∀ j, j < ts.length → w.cell? ⟨b, off + i * ts.length + j, none⟩ = es[j]? := by
      intro i
      by_cases hil : i < len
      · obtain ⟨es, hlf, hc⟩ := hi i hil
        obtain ⟨o, ho⟩ := hQ es hlf
        exact ⟨o, fun _ => ⟨es, ho, hlf.1, hc⟩⟩
      · exact ⟨x0, fun h => absurd h hil⟩
    obtain ⟨F, hF⟩ := Classical.axiomOfChoice key
    refine ⟨_, cap, (List.range len).map F, ?_, by simpa using hlc, hcm, (fun e => by cases e), fun _ => ⟨b, off, rfl, hb, fun i hil => ?_⟩⟩
    · rw [hcs]
      simp
    · have hil' : i < len := by simpa using hil
      have e : ((List.range len).map F)[i]?.getD x0 = F i := by simp [hil']
      rw [e]
      exact hF i hil'
  · obtain rfl : len = 0 := by omega
    exact ⟨A, cap, [], by rw [hcs]; rfl, Nat.zero_le _, hcm, hnone A 0 cap hcs, fun h => absurd h (by simp)⟩
end

end Go.Proofs.YtkfnjpmigifomaaDoor
