/- What this text holds: a slice of ints that the call has built, as a slice that reads as a list. No condition. -/
import Derived.Test.YtkfnjpmigifomaaDoorKit
namespace Go.Proofs.YtkfnjpmigifomaaDoor
open Go.RowKit

theorem info_int : (Tryd.prog.info? 3).map (fun i => (i.zero, i.size, i.bytes)) = some (some (.int .i64 0), 1, 8) := by kernel_rfl

/-- A row of ints that the call owns. -/
structure OwnI (w : World) (base : Nat) (g : Nat) (xs : List Int) : Prop where
  base : base ≤ g
  lt : g < w.heap.size
  cell : ∀ i, i < xs.length → w.cell? ⟨g, i, none⟩ = some (.int .i64 (xs[i]?.getD 0))
  frozen : ∀ i, w.frozen? ⟨g, i, none⟩ = false
theorem OwnI.sl {w : World} {base g : Nat} {xs : List Int} (h : OwnI w base g xs) : SlI w (some ⟨g, 0, none⟩) xs := fun _ =>
  ⟨g, 0, rfl, h.lt, fun i hi => by rw [Nat.zero_add]; exact h.cell i hi⟩
theorem OwnI.set {w : World} {base g : Nat} {xs : List Int} (h : OwnI w base g xs) (j : Nat) (x : Int) : OwnI (w.setCell ⟨g, j, none⟩ (.int .i64 x)) base g (xs.set j x) := by
  refine ⟨h.base, by simpa using h.lt, fun i hi => ?_, fun i => by simpa using h.frozen i⟩
  have hi' : i < xs.length := by simpa using hi
  by_cases hij : i = j
  · subst hij
    rw [World.cell?_setCell_same _ _ _ (h.cell i hi')]
    simp [hi']
  · rw [World.cell?_setCell_other _ _ _ _ (fun e => hij (by have := congrArg Addr.off e; simpa using this.symm)), h.cell i hi', List.getElem?_set_ne (fun e => hij e.symm)]
theorem own_i {w : World} {base e : Nat} {v : Value} {n : Nat} {xs : List Int} (h : w.ownsRow base e 1 v n (xs.map (Value.int .i64))) :
    n = xs.length ∧ ((v = .slice none 0 0 ∧ xs = []) ∨ ∃ g cap, v = .slice (some ⟨g, 0, none⟩) xs.length cap ∧ OwnI w base g xs) := by
  obtain ⟨hl, h⟩ := h
  have hn : n = xs.length := by simpa using hl.symm
  refine ⟨hn, ?_⟩
  rcases h with ⟨hv, h0⟩ | ⟨g, cap, cur, hv, hb, hg, h1, h2, h3, h4⟩
  · exact .inl ⟨hv, List.eq_nil_of_length_eq_zero (by omega)⟩
  · refine .inr ⟨g, cap, by rw [hv, hn], hb, (Array.getElem?_eq_some_iff.1 hg).1, fun i hi => ?_, fun i => ?_⟩
    · have h5 : cur.toList[i]? = some (.int .i64 (xs[i]?.getD 0)) := by
        have : (cur.toList.take (n * 1))[i]? = some (.int .i64 (xs[i]?.getD 0)) := by rw [h4]; simp [hi]
        rw [List.getElem?_take, if_pos (by omega)] at this
        exact this
      simp [World.cell?, hg]
      simpa using h5
    · simp [World.frozen?, hg]
theorem own_sl {w : World} {base e : Nat} {v : Value} {n : Nat} {xs : List Int} (h : w.ownsRow base e 1 v n (xs.map (Value.int .i64))) :
    ∃ A cap, v = .slice A xs.length cap ∧ SlI w A xs := by
  rcases (own_i h).2 with ⟨rfl, rfl⟩ | ⟨g, cap, rfl, ho⟩
  · exact ⟨none, 0, rfl, fun h => absurd h (by simp)⟩
  · exact ⟨_, cap, rfl, ho.sl⟩
theorem below_grown {W w w' : World} {base : Nat} {e size n : Nat} {v : Value} {xs : List Value} (hb : Below W.heap.size W w) (ho : w.ownsRow base e size v n xs) (hB : W.heap.size ≤ base) (hg : w.grownBy w' v.ownBlock) : Below W.heap.size W w' := by
  refine ⟨hg.os.trans hb.os, hg.tape.trans hb.tape, hg.output.trans hb.output, Nat.le_trans hb.size hg.size, fun b hlt => ?_⟩
  have hlt' : b < w.heap.size := Nat.lt_of_lt_of_le hlt hb.size
  have hne : v.ownBlock ≠ some b := by
    rcases ho.2 with ⟨rfl, _⟩ | ⟨g, cap, cur, rfl, hbg, _⟩
    · simp [Value.ownBlock]
    · simp only [Value.ownBlock, ne_eq, Option.some.injEq]; omega
  rw [hg.block b hlt' (fun h => hne h.symm)]
  exact hb.block b hlt

end Go.Proofs.YtkfnjpmigifomaaDoor
