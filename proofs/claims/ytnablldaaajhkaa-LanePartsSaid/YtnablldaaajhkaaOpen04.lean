/- What this text holds: notes and lists of calls of the lanes' statements as arguments. No condition. -/
import Derived.Test.YtnablldaaajhkaaOpenL
import Derived.Test.YtnablldaaajhkaaLan
namespace Go.Proofs.Ytnablldaaajhkaa
open Go.ChangeShapes Go.WideShapes Go.ChangeAt Go.RowKit Go.Deep

/-- A call of the lanes' statements. -/
structure Op4 where
  a : Int
  t : Int
  A : Option Addr
  c : Nat
  ys : List Nt
def Op4.none : Op4 := ⟨0, 0, Option.none, 0, []⟩
def Op4.cells (o : Op4) : List Value := [.int .i64 o.a, .int .i64 o.t, .slice o.A o.ys.length o.c]
def atP (l : List Op4) (i : Nat) : Op4 := l[i]?.getD Op4.none
/-- A list of calls in memory. -/
structure SlP (w : World) (A : Option Addr) (l : List Op4) : Prop where
  cells : 0 < l.length → ∃ b off, A = some ⟨b, off, none⟩ ∧ b < w.heap.size ∧ ∀ i, i < l.length → ∀ j u, (atP l i).cells[j]? = some u → w.cell? ⟨b, off + i * 3 + j, none⟩ = some u
  notes : ∀ i, i < l.length → SlN w (atP l i).A (atP l i).ys ∧ ((atP l i).A = none → (atP l i).c = 0)

section
variable {H : Type} {enc : TypeId × Value → H} {w : World} {base : Nat} {sp : Nat → Bool} {held : Bool}
theorem leaf_note {es : List Value} (h : Leafs enc Try.prog w base sp held [3, 3, 3, 3, 3, 3, 3, 4, 3] es) : ∃ x : Nt, es = x.cells := by
  obtain ⟨k, h0, _⟩ := h.int (i := 0) rfl Try.underlying3
  obtain ⟨c, h1, _⟩ := h.int (i := 1) rfl Try.underlying3
  obtain ⟨l, h2, _⟩ := h.int (i := 2) rfl Try.underlying3
  obtain ⟨w', h3, _⟩ := h.int (i := 3) rfl Try.underlying3
  obtain ⟨s, h4, _⟩ := h.int (i := 4) rfl Try.underlying3
  obtain ⟨a, h5, _⟩ := h.int (i := 5) rfl Try.underlying3
  obtain ⟨b, h6, _⟩ := h.int (i := 6) rfl Try.underlying3
  obtain ⟨d, h7⟩ := h.bool (i := 7) rfl Try.underlying4
  obtain ⟨n, h8, _⟩ := h.int (i := 8) rfl Try.underlying3
  have hl := h.1
  match es, hl with
  | [e0, e1, e2, e3, e4, e5, e6, e7, e8], _ =>
    simp at h0 h1 h2 h3 h4 h5 h6 h7 h8
    exact ⟨⟨k, c, l, w', s, a, b, d, n⟩, by simp [Nt.cells, h0, h1, h2, h3, h4, h5, h6, h7, h8]⟩
theorem trod_slN {fuel : Nat} {cs : List Value} {x : DataW H × List MemPlace} (h : DataW.trod enc Try.prog w base sp held fuel 31 cs = some x) :
    ∃ (A : Option Addr) (cap : Nat) (ys : List Nt), cs = [.slice A ys.length cap] ∧ SlN w A ys ∧ (A = none → cap = 0) ∧ ys.length ≤ cap := by
  obtain ⟨A, cap, ys, hcs, hlc, _, hn, hr⟩ := open_list (d := 5) Nt.zero (fun x es => es = x.cells) Try.underlying31 (ts := [3, 3, 3, 3, 3, 3, 3, 4, 3]) (by kernel_rfl) (by kernel_rfl) (by decide) (fun es hl => leaf_note hl) h
  refine ⟨A, cap, ys, hcs, fun h0 => ?_, hn, hlc⟩
  obtain ⟨b, off, hA, hb, hi⟩ := hr h0
  refine ⟨b, off, hA, hb, fun i hil j u hu => ?_⟩
  obtain ⟨es, rfl, hl, hc⟩ := hi i hil
  have hj : j < 9 := (List.getElem?_eq_some_iff.1 hu).1
  rw [← hu]
  exact hc j hj
theorem open_slN {r : Reach} {b0 : Nat} {v : Value} {x : DataW H} {p : List MemPlace}
    (hv : Value.okWide Try.prog w r b0 31 v) (h : DataW.Trod enc Try.prog w base sp held 31 v x p) :
    ∃ (A : Option Addr) (cap : Nat) (ys : List Nt), v = .slice A ys.length cap ∧ SlN w A ys ∧ (A = none → cap = 0) := by
  obtain ⟨a0, len0, cap0, rfl⟩ := okWide_slice Try.underlying31 hv
  obtain ⟨fuel, hf⟩ := h
  have hf' : DataW.trod enc Try.prog w base sp held fuel 31 [.slice a0 len0 cap0] = some (x, p) := hf
  obtain ⟨A, cap, ys, hcs, h1, h2, _⟩ := trod_slN hf'
  simp only [List.cons.injEq, and_true] at hcs
  exact ⟨A, cap, ys, hcs, h1, h2⟩
theorem open_slP {r : Reach} {b0 : Nat} {v : Value} {x : DataW H} {p : List MemPlace}
    (hv : Value.okWide Try.prog w r b0 24 v) (h : DataW.Trod enc Try.prog w base sp held 24 v x p) :
    ∃ (A : Option Addr) (cap : Nat) (l : List Op4), v = .slice A l.length cap ∧ SlP w A l ∧ l.length ≤ maxLen := by
  obtain ⟨a0, len0, cap0, rfl⟩ := okWide_slice Try.underlying24 hv
  obtain ⟨fuel, hf⟩ := h
  have hf' : DataW.trod enc Try.prog w base sp held fuel 24 [.slice a0 len0 cap0] = some (x, p) := hf
  obtain ⟨A, cap, l, hcs, hlc, hcm, _, hr⟩ := open_list (d := 5) Op4.none (fun (o : Op4) es => es = o.cells ∧ SlN w o.A o.ys ∧ (o.A = none → o.c = 0)) Try.underlying24 (ts := [3, 3, 31]) (by kernel_rfl) (by kernel_rfl) (by decide) (fun es hl => by
    obtain ⟨a, h0, _⟩ := hl.int (i := 0) rfl Try.underlying3
    obtain ⟨t, h1, _⟩ := hl.int (i := 1) rfl Try.underlying3
    obtain ⟨c, n, y, h2, h3⟩ := hl.2 2 31 rfl
    obtain ⟨A, cap, ys, h4, h5, h6, _⟩ := trod_slN h3
    have hlen := hl.1
    match es, hlen with
    | [e0, e1, e2], _ =>
      simp at h0 h1 h2 h4
      exact ⟨⟨a, t, A, cap, ys⟩, by simp [Op4.cells, h0, h1, h2, h4], h5, h6⟩) hf'
  simp only [List.cons.injEq, and_true] at hcs
  refine ⟨A, cap, l, hcs, ⟨fun h0 => ?_, fun i hil => ?_⟩, Nat.le_trans hlc hcm⟩
  · obtain ⟨b, off, hA, hb, hi⟩ := hr h0
    refine ⟨b, off, hA, hb, fun i hil j u hu => ?_⟩
    obtain ⟨es, ⟨rfl, _⟩, hl, hc⟩ := hi i hil
    have hj : j < 3 := (List.getElem?_eq_some_iff.1 hu).1
    have := hc j hj
    unfold atP at hu
    rw [hu] at this
    exact this
  · obtain ⟨b, off, hA, hb, hi⟩ := hr (by omega)
    obtain ⟨es, ⟨_, h1, h2⟩, _⟩ := hi i hil
    exact ⟨h1, h2⟩
end

end Go.Proofs.Ytnablldaaajhkaa
