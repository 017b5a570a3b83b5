/- What this text holds: the arguments of the laws of layer 14. No condition. -/
import Derived.Test.YtjggnhcdnfmmeaaOpenL
import Derived.Test.YtjggnhcdnfmmeaaOpenI
import Derived.Test.YtjggnhcdnfmmeaaMoA
namespace Go.Proofs.Ytjggnhcdnfmmeaa
open Go.ChangeShapes Go.WideShapes Go.ChangeAt Go.RowKit Go.Deep
set_option maxRecDepth 100000

/-- A call of the law's list. -/
structure Op14 where
  k : Int
  a : Ak
  g : Int
  c : Int
def Op14.none : Op14 := ⟨0, ⟨0, 0, 0, 0, 0⟩, 0, 0⟩
def Op14.cells (o : Op14) : List Value := [.int .i64 o.k, .int .i64 o.a.co, .int .i64 o.a.wo, .int .i64 o.a.ca, .int .i64 o.a.gr, .int .i64 o.a.to, .int .i64 o.g, .int .i64 o.c]
def atO (l : List Op14) (i : Nat) : Op14 := l[i]?.getD Op14.none
/-- A list of calls in memory. -/
def SlO (w : World) (A : Option Addr) (l : List Op14) : Prop :=
  0 < l.length → ∃ b off, A = some ⟨b, off, none⟩ ∧ b < w.heap.size ∧ ∀ i, i < l.length → ∀ j u, (atO l i).cells[j]? = some u → w.cell? ⟨b, off + i * 8 + j, none⟩ = some u
section
variable {H : Type} {enc : TypeId × Value → H} {w : World} {base : Nat} {sp : Nat → Bool} {held : Bool}
theorem open_ask {r : Reach} {b0 : Nat} {v : Value} {x : DataW H} {p : List MemPlace}
    (hv : Value.okWide Try.prog w r b0 70 v) (h : DataW.Trod enc Try.prog w base sp held 70 v x p) : ∃ a : Ak, v = a.val ∧ (Lit.int .i64 a.gr).wf = true := by
  obtain ⟨cs, rfl, hl⟩ := open_leafs (d := 5) (ts := [3, 3, 3, 3, 3]) (by kernel_rfl) ⟨_, Try.underlying70, trivial⟩ hv h
  obtain ⟨l⟩ := cs
  obtain ⟨a0, h0, _⟩ := hl.int (i := 0) rfl Try.underlying3
  obtain ⟨a1, h1, _⟩ := hl.int (i := 1) rfl Try.underlying3
  obtain ⟨a2, h2, _⟩ := hl.int (i := 2) rfl Try.underlying3
  obtain ⟨a3, h3, g3⟩ := hl.int (i := 3) rfl Try.underlying3
  obtain ⟨a4, h4, _⟩ := hl.int (i := 4) rfl Try.underlying3
  have hlen := hl.1
  match l, hlen with
  | [c0, c1, c2, c3, c4], _ =>
    simp at h0 h1 h2 h3 h4
    exact ⟨⟨a0, a1, a2, a3, a4⟩, by simp [Ak.val, h0, h1, h2, h3, h4], g3⟩
theorem open_slO {r : Reach} {b0 : Nat} {v : Value} {x : DataW H} {p : List MemPlace}
    (hv : Value.okWide Try.prog w r b0 65 v) (h : DataW.Trod enc Try.prog w base sp held 65 v x p) :
    ∃ (A : Option Addr) (cap : Nat) (l : List Op14), v = .slice A l.length cap ∧ SlO w A l ∧ l.length ≤ maxLen := by
  obtain ⟨a0, len0, cap0, rfl⟩ := okWide_slice Try.underlying65 hv
  obtain ⟨fuel, hf⟩ := h
  have hf' : DataW.trod enc Try.prog w base sp held fuel 65 [.slice a0 len0 cap0] = some (x, p) := hf
  obtain ⟨A, cap, l, hcs, hlc, hcm, _, hr⟩ := open_list (d := 5) Op14.none (fun (o : Op14) es => es = o.cells) Try.underlying65 (ts := [3, 3, 3, 3, 3, 3, 3, 3]) (by kernel_rfl) (by kernel_rfl) (by decide) (fun es hl => by
    obtain ⟨a0, h0, _⟩ := hl.int (i := 0) rfl Try.underlying3
    obtain ⟨a1, h1, _⟩ := hl.int (i := 1) rfl Try.underlying3
    obtain ⟨a2, h2, _⟩ := hl.int (i := 2) rfl Try.underlying3
    obtain ⟨a3, h3, _⟩ := hl.int (i := 3) rfl Try.underlying3
    obtain ⟨a4, h4, _⟩ := hl.int (i := 4) rfl Try.underlying3
    obtain ⟨a5, h5, _⟩ := hl.int (i := 5) rfl Try.underlying3
    obtain ⟨a6, h6, _⟩ := hl.int (i := 6) rfl Try.underlying3
    obtain ⟨a7, h7, _⟩ := hl.int (i := 7) rfl Try.underlying3
    have hlen := hl.1
    match es, hlen with
    | [e0, e1, e2, e3, e4, e5, e6, e7], _ =>
      simp at h0 h1 h2 h3 h4 h5 h6 h7
      exact ⟨⟨a0, ⟨a1, a2, a3, a4, a5⟩, a6, a7⟩, by simp [Op14.cells, h0, h1, h2, h3, h4, h5, h6, h7]⟩) hf'
  simp only [List.cons.injEq, and_true] at hcs
  refine ⟨A, cap, l, hcs, fun h0 => ?_, Nat.le_trans hlc hcm⟩
  obtain ⟨b, off, hA, hb, hi⟩ := hr h0
  refine ⟨b, off, hA, hb, fun i hil j u hu => ?_⟩
  obtain ⟨es, rfl, hl, hc⟩ := hi i hil
  have hj : j < 8 := (List.getElem?_eq_some_iff.1 hu).1
  have := hc j hj
  unfold atO at hu
  rw [hu] at this
  exact this
end

end Go.Proofs.Ytjggnhcdnfmmeaa
