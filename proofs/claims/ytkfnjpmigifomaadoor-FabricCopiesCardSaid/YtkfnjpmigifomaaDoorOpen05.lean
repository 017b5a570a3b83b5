/- What this text holds: notes and lists of calls of the fabrics' statements as arguments. No condition. -/
import Derived.Test.YtkfnjpmigifomaaDoorOpenL
import Derived.Test.YtkfnjpmigifomaaDoorTab
import Derived.Test.YtkfnjpmigifomaaDoorOpen01
import Derived.Test.YtkfnjpmigifomaaDoorKnd
namespace Go.Proofs.YtkfnjpmigifomaaDoor
open Go.ChangeShapes Go.WideShapes Go.ChangeAt Go.RowKit Go.Deep
set_option maxRecDepth 100000

/-- A call of the fabrics' statements. -/
structure Op5 where
  a : Int
  co : Int
  la : Int
  wh : Int
  A : Option Addr
  c : Nat
  ys : List Nt
def Op5.none : Op5 := ⟨0, 0, 0, 0, Option.none, 0, []⟩
def Op5.cells (o : Op5) : List Value := [.int .i64 o.a, .int .i64 o.co, .int .i64 o.la, .int .i64 o.wh, .slice o.A o.ys.length o.c]
def atP (l : List Op5) (i : Nat) : Op5 := l[i]?.getD Op5.none
/-- A list of calls in memory. -/
structure SlP (w : World) (A : Option Addr) (l : List Op5) : Prop where
  cells : 0 < l.length → ∃ b off, A = some ⟨b, off, none⟩ ∧ b < w.heap.size ∧ ∀ i, i < l.length → ∀ j u, (atP l i).cells[j]? = some u → w.cell? ⟨b, off + i * 5 + j, none⟩ = some u
  notes : ∀ i, i < l.length → SlN w (atP l i).A (atP l i).ys ∧ ((atP l i).A = none → (atP l i).c = 0)
theorem SlP.blk {w : World} {A : Option Addr} {l : List Op5} (h : SlP w A l) {i : Nat} (hi : i < l.length) : 0 < (atP l i).ys.length → ∀ a, (atP l i).A = some a → a.block < w.heap.size := fun h0 a ha => by
  obtain ⟨b, off, h1, h2, _⟩ := (h.notes i hi).1 h0
  rw [ha] at h1
  cases h1
  exact h2

theorem laid_cells2 {P : Program} {W : World} {name : String} {d : DataW Unit} {x : String × DataW Unit} {rest : List (String × DataW Unit)} {g : Nat} {t : TypeId} {k : Nat}
    (hg : P.globalNamed name = some g) (hty : (P.globals[g]?).map (·.type) = some t) (hsc : scalarT P k t = true)
    (h : laidMet P (x :: (name, d) :: rest) W) : ∃ ty fr, W.heap[g]? = some (.cells (flatV k d).toArray ty fr) := by
  obtain ⟨ps, ⟨_, _, _, _, _, _, _, _, _, _, ⟨g', t', cs, fuel, p, q, hg', ht', hvar, hd, _, _⟩, _⟩, _⟩ := h
  obtain rfl := Option.some.inj (hg.symm.trans hg')
  obtain rfl := Option.some.inj (hty.symm.trans ht')
  have hcs := flat_of_trod k fuel t _ _ _ hsc hd
  unfold World.var? at hvar
  rw [hg] at hvar
  simp only [Option.bind_some] at hvar
  split at hvar
  · rename_i cs' ty fr hh
    cases hvar
    exact ⟨ty, fr, by rw [hh, ← hcs]⟩
  · cases hvar
theorem scLim : scalarT Tryd.prog 5 95 = true := by kernel_rfl
theorem flatLim : (flatV 5 (Rows.laid_donjon_place_limits : DataW Unit)).toArray = #[.int .i64 4, .int .i64 16, .int .i64 8, .int .i64 4, .int .i64 16, .int .i64 8, .int .i64 4] := by kernel_rfl
theorem gKnd : Tryd.prog.globalNamed "donjon/note.kinds" = some 2 := by kernel_rfl
theorem gKndType : (Tryd.prog.globals[(2 : Nat)]?).map (·.type) = some 165 := by kernel_rfl
theorem scKnd : scalarT Tryd.prog 5 165 = true := by kernel_rfl
theorem flatKnd : (flatV 5 (Rows.laid_donjon_note_kinds : DataW Unit)).toArray = #[.string ⟨#[]⟩, .int .i64 0, .int .i64 0, .int .i64 0, .int .i64 0, .int .i64 0, .int .i64 0, .int .i64 0, .int .i64 0, .string ⟨#[103, 101, 116, 115]⟩, .int .i64 0, .int .i64 1, .int .i64 2, .int .i64 3, .int .i64 0, .int .i64 0, .int .i64 0, .int .i64 0, .string ⟨#[103, 101, 116, 109]⟩, .int .i64 0, .int .i64 1, .int .i64 2, .int .i64 3, .int .i64 0, .int .i64 0, .int .i64 0, .int .i64 0, .string ⟨#[112, 117, 116]⟩, .int .i64 0, .int .i64 1, .int .i64 2, .int .i64 4, .int .i64 8, .int .i64 9, .int .i64 10, .int .i64 0, .string ⟨#[100, 111, 110, 101]⟩, .int .i64 1, .int .i64 1, .int .i64 2, .int .i64 0, .int .i64 0, .int .i64 0, .int .i64 0, .int .i64 0, .string ⟨#[114, 101, 112, 108, 121]⟩, .int .i64 1, .int .i64 1, .int .i64 2, .int .i64 5, .int .i64 8, .int .i64 9, .int .i64 10, .int .i64 11, .string ⟨#[119, 97, 108, 107]⟩, .int .i64 0, .int .i64 1, .int .i64 12, .int .i64 0, .int .i64 0, .int .i64 0, .int .i64 0, .int .i64 0, .string ⟨#[100, 114, 111, 112, 112, 101, 100]⟩, .int .i64 1, .int .i64 1, .int .i64 13, .int .i64 0, .int .i64 0, .int .i64 0, .int .i64 0, .int .i64 0, .string ⟨#[103, 114, 97, 110, 116]⟩, .int .i64 2, .int .i64 1, .int .i64 2, .int .i64 4, .int .i64 6, .int .i64 8, .int .i64 9, .int .i64 0, .string ⟨#[110, 97, 99, 107]⟩, .int .i64 2, .int .i64 1, .int .i64 2, .int .i64 11, .int .i64 0, .int .i64 0, .int .i64 0, .int .i64 0, .string ⟨#[112, 117, 116, 97, 99, 107]⟩, .int .i64 2, .int .i64 1, .int .i64 2, .int .i64 0, .int .i64 0, .int .i64 0, .int .i64 0, .int .i64 0, .string ⟨#[112, 114, 111, 98, 101]⟩, .int .i64 3, .int .i64 1, .int .i64 2, .int .i64 7, .int .i64 0, .int .i64 0, .int .i64 0, .int .i64 0, .string ⟨#[119, 97, 108, 107, 101, 100]⟩, .int .i64 2, .int .i64 1, .int .i64 8, .int .i64 9, .int .i64 12, .int .i64 0, .int .i64 0, .int .i64 0, .string ⟨#[100, 114, 111, 112]⟩, .int .i64 3, .int .i64 1, .int .i64 13, .int .i64 0, .int .i64 0, .int .i64 0, .int .i64 0, .int .i64 0] := by kernel_rfl
theorem lims_of_two {W : World} (h : laidMetH Tryd.prog [("donjon/place.limits", Rows.laid_donjon_place_limits), ("donjon/note.kinds", Rows.laid_donjon_note_kinds)] W) : Lims W := by
  obtain ⟨t, fr, hh⟩ := laid_cells (rest := [("donjon/note.kinds", Rows.laid_donjon_note_kinds)]) gLim gLimType scLim h
  exact ⟨t, fr, by rw [hh, flatLim]⟩
theorem kinds_of_two {W : World} (h : laidMetH Tryd.prog [("donjon/place.limits", Rows.laid_donjon_place_limits), ("donjon/note.kinds", Rows.laid_donjon_note_kinds)] W) : Kinds W := by
  obtain ⟨t, fr, hh⟩ := laid_cells2 (rest := []) gKnd gKndType scKnd h
  exact ⟨t, fr, by rw [hh, flatKnd]⟩

section
variable {H : Type} {enc : TypeId × Value → H} {w : World} {base : Nat} {sp : Nat → Bool} {held : Bool}
theorem leaf_note {es : List Value} (h : Leafs enc Tryd.prog w base sp held [3, 3, 3, 3, 3, 3, 3, 4, 3] es) : ∃ x : Nt, es = x.cells := by
  obtain ⟨k, h0, _⟩ := h.int (i := 0) rfl Tryd.underlying3
  obtain ⟨c, h1, _⟩ := h.int (i := 1) rfl Tryd.underlying3
  obtain ⟨l, h2, _⟩ := h.int (i := 2) rfl Tryd.underlying3
  obtain ⟨w', h3, _⟩ := h.int (i := 3) rfl Tryd.underlying3
  obtain ⟨s, h4, _⟩ := h.int (i := 4) rfl Tryd.underlying3
  obtain ⟨a, h5, _⟩ := h.int (i := 5) rfl Tryd.underlying3
  obtain ⟨b, h6, _⟩ := h.int (i := 6) rfl Tryd.underlying3
  obtain ⟨d, h7⟩ := h.bool (i := 7) rfl Tryd.underlying4
  obtain ⟨n, h8, _⟩ := h.int (i := 8) rfl Tryd.underlying3
  have hl := h.1
  match es, hl with
  | [e0, e1, e2, e3, e4, e5, e6, e7, e8], _ =>
    simp at h0 h1 h2 h3 h4 h5 h6 h7 h8
    exact ⟨⟨k, c, l, w', s, a, b, d, n⟩, by simp [Nt.cells, h0, h1, h2, h3, h4, h5, h6, h7, h8]⟩
theorem trod_slN {fuel : Nat} {cs : List Value} {x : DataW H × List MemPlace} (h : DataW.trod enc Tryd.prog w base sp held fuel 69 cs = some x) :
    ∃ (A : Option Addr) (cap : Nat) (ys : List Nt), cs = [.slice A ys.length cap] ∧ SlN w A ys ∧ (A = none → cap = 0) ∧ ys.length ≤ cap := by
  obtain ⟨A, cap, ys, hcs, hlc, _, hn, hr⟩ := open_list (d := 5) Nt.zero (fun x es => es = x.cells) Tryd.underlying69 (ts := [3, 3, 3, 3, 3, 3, 3, 4, 3]) (by kernel_rfl) (by kernel_rfl) (by decide) (fun es hl => leaf_note hl) h
  refine ⟨A, cap, ys, hcs, fun h0 => ?_, hn, hlc⟩
  obtain ⟨b, off, hA, hb, hi⟩ := hr h0
  refine ⟨b, off, hA, hb, fun i hil j u hu => ?_⟩
  obtain ⟨es, rfl, hl, hc⟩ := hi i hil
  have hj : j < 9 := (List.getElem?_eq_some_iff.1 hu).1
  rw [← hu]
  exact hc j hj
theorem open_slN {r : Reach} {b0 : Nat} {v : Value} {x : DataW H} {p : List MemPlace}
    (hv : Value.okWide Tryd.prog w r b0 69 v) (h : DataW.Trod enc Tryd.prog w base sp held 69 v x p) :
    ∃ (A : Option Addr) (cap : Nat) (ys : List Nt), v = .slice A ys.length cap ∧ SlN w A ys ∧ (A = none → cap = 0) := by
  obtain ⟨a0, len0, cap0, rfl⟩ := okWide_slice Tryd.underlying69 hv
  obtain ⟨fuel, hf⟩ := h
  have hf' : DataW.trod enc Tryd.prog w base sp held fuel 69 [.slice a0 len0 cap0] = some (x, p) := hf
  obtain ⟨A, cap, ys, hcs, h1, h2, _⟩ := trod_slN hf'
  simp only [List.cons.injEq, and_true] at hcs
  exact ⟨A, cap, ys, hcs, h1, h2⟩
theorem open_slP {r : Reach} {b0 : Nat} {v : Value} {x : DataW H} {p : List MemPlace}
    (hv : Value.okWide Tryd.prog w r b0 64 v) (h : DataW.Trod enc Tryd.prog w base sp held 64 v x p) :
    ∃ (A : Option Addr) (cap : Nat) (l : List Op5), v = .slice A l.length cap ∧ SlP w A l ∧ l.length ≤ maxLen := by
  obtain ⟨a0, len0, cap0, rfl⟩ := okWide_slice Tryd.underlying64 hv
  obtain ⟨fuel, hf⟩ := h
  have hf' : DataW.trod enc Tryd.prog w base sp held fuel 64 [.slice a0 len0 cap0] = some (x, p) := hf
  obtain ⟨A, cap, l, hcs, hlc, hcm, _, hr⟩ := open_list (d := 5) Op5.none (fun (o : Op5) es => es = o.cells ∧ SlN w o.A o.ys ∧ (o.A = none → o.c = 0)) Tryd.underlying64 (ts := [3, 3, 3, 3, 69]) (by kernel_rfl) (by kernel_rfl) (by decide) (fun es hl => by
    obtain ⟨a0, h0, _⟩ := hl.int (i := 0) rfl Tryd.underlying3
    obtain ⟨a1, h1, _⟩ := hl.int (i := 1) rfl Tryd.underlying3
    obtain ⟨a2, h2, _⟩ := hl.int (i := 2) rfl Tryd.underlying3
    obtain ⟨a3, h3, _⟩ := hl.int (i := 3) rfl Tryd.underlying3
    obtain ⟨c, n, y, h4, h5⟩ := hl.2 4 69 rfl
    obtain ⟨A, cap, ys, h6, h7, h8, _⟩ := trod_slN h5
    have hlen := hl.1
    match es, hlen with
    | [e0, e1, e2, e3, e4], _ =>
      simp at h0 h1 h2 h3 h4
      exact ⟨⟨a0, a1, a2, a3, A, cap, ys⟩, by simp [Op5.cells, h0, h1, h2, h3, h4, h6], h7, h8⟩) hf'
  simp only [List.cons.injEq, and_true] at hcs
  refine ⟨A, cap, l, hcs, ⟨fun h0 => ?_, fun i hil => ?_⟩, Nat.le_trans hlc hcm⟩
  · obtain ⟨b, off, hA, hb, hi⟩ := hr h0
    refine ⟨b, off, hA, hb, fun i hil j u hu => ?_⟩
    obtain ⟨es, ⟨rfl, _⟩, hl, hc⟩ := hi i hil
    have hj : j < 5 := (List.getElem?_eq_some_iff.1 hu).1
    have := hc j hj
    unfold atP at hu
    rw [hu] at this
    exact this
  · obtain ⟨b, off, hA, hb, hi⟩ := hr (by omega)
    obtain ⟨es, ⟨_, h1, h2⟩, _⟩ := hi i hil
    exact ⟨h1, h2⟩
end

end Go.Proofs.YtkfnjpmigifomaaDoor
