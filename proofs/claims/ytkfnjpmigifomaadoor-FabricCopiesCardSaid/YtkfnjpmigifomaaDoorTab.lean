/- What this text holds: a table of scalars, structs and arrays that reads as a datum holds just that datum's values, in order. No condition. -/
import Derived.Test.YtkfnjpmigifomaaDoorOpen
namespace Go.Proofs.YtkfnjpmigifomaaDoor
open Go.ChangeShapes Go.WideShapes Go.ChangeAt Go.RowKit Go.Deep

/-- The values that a datum's cells hold. -/
def flatV {H : Type} : Nat → DataW H → List Value
  | 0, _ => []
  | n + 1, .agg xs => (xs.map (flatV n)).flatten
  | _ + 1, .lit (.int k z) => [.int k z]
  | _ + 1, .lit (.bool b) => [.bool b]
  | _ + 1, .lit (.string bs) => [.string ⟨bs.toArray⟩]
  | _ + 1, _ => []

/-- A type of scalars alone, whose cells follow one another. -/
def scalarT (P : Program) : Nat → TypeId → Bool
  | 0, _ => false
  | d + 1, t => match P.underlying t with
    | some (.struct fs) => (fs.toList.all fun f => scalarT P d f.type) && rowOk P (fs.toList.map fun f => List.replicate (P.cellsOf f.type) 0) fs.toList 0 && (fs.toList.map fun f => P.cellsOf f.type).sum == P.cellsOf t
    | some (.array n e) => scalarT P d e && n * P.cellsOf e == P.cellsOf t
    | some (.int _) | some .bool | some .string => P.cellsOf t == 1
    | _ => false

section
variable {H : Type} {enc : TypeId × Value → H} {P : Program} {w : World} {base : Nat} {sp : Nat → Bool} {held : Bool}

theorem cat_row : ∀ (fs : List Field) (o : Nat) (cs : List Value) (segs : List (List Value)), rowOk P (fs.map fun f => List.replicate (P.cellsOf f.type) 0) fs o = true → o + (fs.map fun f => P.cellsOf f.type).sum = cs.length →
    segs.length = fs.length → (∀ (i : Nat) (f : Field), fs[i]? = some f → segs[i]? = some ((cs.drop f.offset).take (P.cellsOf f.type))) → cs.drop o = segs.flatten
  | [], o, cs, segs, _, hl, hs, _ => by
    have : segs = [] := List.eq_nil_of_length_eq_zero (by simpa using hs)
    subst this
    simp at hl
    simp [hl]
  | f :: fs, o, cs, segs, h, hl, hs, hf => by
    cases segs with
    | nil => simp at hs
    | cons s segs =>
      simp only [List.map_cons, rowOk, Bool.and_eq_true, beq_iff_eq, List.length_replicate] at h
      obtain ⟨⟨ho, _⟩, hr⟩ := h
      have h1 := hf 0 f rfl
      simp only [List.getElem?_cons_zero, Option.some.injEq] at h1
      have h2 := cat_row fs (o + P.cellsOf f.type) cs segs hr (by simp only [List.map_cons, List.sum_cons] at hl; omega) (by simpa using hs) (fun i f hi => by simpa using hf (i + 1) f (by simpa using hi))
      rw [List.flatten_cons, ← h2, h1, ho, ← List.drop_drop, List.take_append_drop]

theorem cat_rep (m : Nat) : ∀ (n k : Nat) (cs : List Value) (segs : List (List Value)), cs.length = (k + n) * m → segs.length = n → (∀ i, i < n → segs[i]? = some ((cs.drop ((k + i) * m)).take m)) → cs.drop (k * m) = segs.flatten
  | 0, k, cs, segs, hl, hs, _ => by
    have : segs = [] := List.eq_nil_of_length_eq_zero hs
    subst this
    simp [hl]
  | n + 1, k, cs, segs, hl, hs, hf => by
    cases segs with
    | nil => simp at hs
    | cons s segs =>
      have h1 := hf 0 (by omega)
      simp only [List.getElem?_cons_zero, Option.some.injEq, Nat.add_zero] at h1
      have h2 := cat_rep m n (k + 1) cs segs (by rw [hl]; congr 1; omega) (by simpa using hs) (fun i hi => by
        have := hf (i + 1) (by omega)
        rw [show k + (i + 1) = k + 1 + i by omega] at this
        simpa using this)
      rw [List.flatten_cons, ← h2, h1, Nat.succ_mul, ← List.drop_drop, List.take_append_drop]

theorem flat_of_trod : ∀ (d fuel : Nat) (t : TypeId) (cs : List Value) (x : DataW H) (p : List MemPlace), scalarT P d t = true → DataW.trod enc P w base sp held fuel t cs = some (x, p) → cs = flatV d x
  | 0, _, _, _, _, _, h, _ => by simp [scalarT] at h
  | d + 1, fuel, t, cs, x, p, h, hx => by
    unfold scalarT at h
    split at h
    · rename_i fs hu
      obtain ⟨xs, n, _, he, hlen, hxl, hf⟩ := DataW.trod_struct hu hx
      simp only [Prod.mk.injEq] at he
      obtain ⟨rfl, _⟩ := he
      simp only [Bool.and_eq_true, beq_iff_eq] at h
      obtain ⟨⟨hall, hrow⟩, hsum⟩ := h
      have := cat_row fs.toList 0 cs (xs.map fun y => flatV d y.1) hrow (by rw [hsum, hlen]; omega) (by simp [hxl]) (fun i f hi => by
        have hi' : i < xs.length := by have := (List.getElem?_eq_some_iff.1 hi).1; simp at this; omega
        have hfi := hf i f (by simpa using hi)
        rw [List.getElem?_eq_getElem hi'] at hfi
        have hm : f ∈ fs.toList := List.mem_of_getElem? hi
        have := flat_of_trod d n f.type _ _ _ (List.all_eq_true.1 hall f hm) hfi
        rw [this]
        simp [List.getElem?_eq_getElem hi'])
      simpa [flatV, Function.comp_def] using this
    · rename_i n e hu
      obtain ⟨xs, m, _, he, hlen, hxl, hf⟩ := DataW.trod_array hu hx
      simp only [Prod.mk.injEq] at he
      obtain ⟨rfl, _⟩ := he
      simp only [Bool.and_eq_true, beq_iff_eq] at h
      have := cat_rep (P.cellsOf e) n 0 cs (xs.map fun y => flatV d y.1) (by rw [hlen, ← h.2]; simp) (by simp [hxl]) (fun i hi => by
        have hfi := hf i hi
        rw [List.getElem?_eq_getElem (by omega)] at hfi
        have := flat_of_trod d m e _ _ _ h.1 hfi
        rw [Nat.zero_add, this]
        simp [List.getElem?_eq_getElem (show i < xs.length by omega)])
      simpa [flatV, Function.comp_def] using this
    · rename_i k hu
      obtain ⟨z, rfl, he, _⟩ := DataW.trod_int hu hx
      simp only [Prod.mk.injEq] at he
      obtain ⟨rfl, _⟩ := he
      rfl
    · rename_i hu
      obtain ⟨z, rfl, he⟩ := DataW.trod_bool hu hx
      simp only [Prod.mk.injEq] at he
      obtain ⟨rfl, _⟩ := he
      rfl
    · rename_i hu
      obtain ⟨s, rfl, he, _⟩ := DataW.trod_string hu hx
      simp only [Prod.mk.injEq] at he
      obtain ⟨rfl, _⟩ := he
      simp [flatV]
    · cases h
end

/-- A listed variable holds its datum's values. -/
theorem laid_cells {P : Program} {W : World} {name : String} {d : DataW Unit} {rest : List (String × DataW Unit)} {g : Nat} {t : TypeId} {k : Nat}
    (hg : P.globalNamed name = some g) (hty : (P.globals[g]?).map (·.type) = some t) (hsc : scalarT P k t = true)
    (h : laidMet P ((name, d) :: rest) W) : ∃ ty fr, W.heap[g]? = some (.cells (flatV k d).toArray ty fr) := by
  obtain ⟨ps, ⟨g', t', cs, fuel, p, q, hg', ht', hvar, hd, _, _⟩, _⟩ := h
  obtain rfl := Option.some.inj (hg.symm.trans hg')
  obtain rfl := Option.some.inj (hty.symm.trans ht')
  have hcs := flat_of_trod k fuel t _ _ _ hsc hd
  unfold World.var? at hvar
  rw [hg] at hvar
  simp only [Option.bind_some] at hvar
  split at hvar
  · rename_i cs' ty fr hh
    cases hvar
    exact ⟨ty, fr, by rw [hh, ← hcs]⟩
  · cases hvar

end Go.Proofs.YtkfnjpmigifomaaDoor
