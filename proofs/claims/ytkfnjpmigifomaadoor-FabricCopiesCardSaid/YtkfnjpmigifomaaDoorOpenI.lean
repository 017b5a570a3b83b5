/- What this text holds: ints, pairs and slices of ints as arguments. No condition. -/
import Derived.Test.YtkfnjpmigifomaaDoorOpen
namespace Go.Proofs.YtkfnjpmigifomaaDoor
open Go.ChangeShapes Go.WideShapes Go.ChangeAt Go.RowKit Go.Deep

theorem wf_bd {z : Int} (h : (Lit.int .i64 z).wf = true) : -9223372036854775808 ≤ z ∧ z ≤ 9223372036854775807 := by
  simpa [Lit.wf, IntKind.min, IntKind.max, IntKind.signed, IntKind.bits] using h

set_option maxRecDepth 100000
section
variable {H : Type} {enc : TypeId × Value → H} {w : World} {base : Nat} {sp : Nat → Bool} {held : Bool}
set_option maxRecDepth 100000 in
theorem open_i {r : Reach} {b0 : Nat} {v : Value} {x : DataW H} {p : List MemPlace}
    (hv : Value.okWide Tryd.prog w r b0 3 v) (h : DataW.Trod enc Tryd.prog w base sp held 3 v x p) : ∃ z : Int, v = .int .i64 z ∧ (Lit.int .i64 z).wf = true := by
  obtain ⟨z, h1, _, _, h2⟩ := open_int Tryd.underlying3 hv h
  exact ⟨z, h1, h2⟩
set_option maxRecDepth 100000 in
theorem open_two {r : Reach} {b0 : Nat} {v : Value} {x : DataW H} {p : List MemPlace}
    (hv : Value.okWide Tryd.prog w r b0 25 v) (h : DataW.Trod enc Tryd.prog w base sp held 25 v x p) : ∃ y z : Int, v = .agg #[.int .i64 y, .int .i64 z] ∧ (Lit.int .i64 y).wf = true ∧ (Lit.int .i64 z).wf = true := by
  obtain ⟨cs, rfl, hl⟩ := open_leafs (d := 5) (ts := [3, 3]) (by kernel_rfl) ⟨_, Tryd.underlying25, trivial⟩ hv h
  obtain ⟨l⟩ := cs
  obtain ⟨a0, h0, w0⟩ := hl.int (i := 0) rfl Tryd.underlying3
  obtain ⟨a1, h1, w1⟩ := hl.int (i := 1) rfl Tryd.underlying3
  have hlen := hl.1
  match l, hlen with
  | [c0, c1], _ =>
    simp at h0 h1
    exact ⟨a0, a1, by simp [h0, h1], w0, w1⟩
set_option maxRecDepth 100000 in
theorem open_sl {r : Reach} {b0 : Nat} {v : Value} {x : DataW H} {p : List MemPlace}
    (hv : Value.okWide Tryd.prog w r b0 59 v) (h : DataW.Trod enc Tryd.prog w base sp held 59 v x p) :
    ∃ (A : Option Addr) (cap : Nat) (xs : List Int), v = .slice A xs.length cap ∧ SlI w A xs ∧ xs.length ≤ cap ∧ cap ≤ maxLen ∧ (∀ n ∈ xs, (Lit.int .i64 n).wf = true) := by
  obtain ⟨a0, len, cap, rfl⟩ := okWide_slice Tryd.underlying59 hv
  obtain ⟨fuel, hf⟩ := h
  have hf' : DataW.trod enc Tryd.prog w base sp held fuel 59 [.slice a0 len cap] = some (x, p) := hf
  rcases open_ints Tryd.underlying59 Tryd.underlying3 (by kernel_rfl) hf' with ⟨hcs, _⟩ | ⟨a, len', cap', zs, hcs, _, hl, hm, hz, _, hcell, hwz⟩
  · simp at hcs
    obtain ⟨rfl, rfl, rfl⟩ := hcs
    exact ⟨none, 0, [], rfl, fun h => absurd h (by simp), Nat.le_refl _, by decide, by simp⟩
  · simp at hcs
    obtain ⟨rfl, rfl, rfl⟩ := hcs
    have hle : len ≤ zs.length := by rw [hz]; split <;> omega
    have hlen : (zs.take len).length = len := by simp [hle]
    refine ⟨some a, cap, zs.take len, by rw [hlen], fun h0 => ?_, by rw [hlen]; exact hl, hm, fun n hn => hwz n (List.mem_of_mem_take hn)⟩
    rw [hlen] at h0
    obtain ⟨b, off, rfl, hc⟩ := ints_at hcell (by omega)
    refine ⟨b, off, rfl, World.block_lt_of_cell? w _ (hc 0 (by omega)), fun i hi => ?_⟩
    rw [hlen] at hi
    rw [hc i (by omega), List.getElem?_take, if_pos hi]
    simp [List.getD]
end

end Go.Proofs.YtkfnjpmigifomaaDoor
