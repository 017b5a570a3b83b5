/- What this text holds: how an argument's reading gives its cells: structs and arrays down to their scalar cells, whatever their number. No condition. -/
import Derived.Test.YtkfnjpmigifomaaDoorClose
namespace Go.Proofs.YtkfnjpmigifomaaDoor
open Go.ChangeShapes Go.WideShapes Go.ChangeAt Go.RowKit Go.Deep

/-- Offsets follow one another. -/
def rowOk (P : Program) (ls : List (List TypeId)) : List Field → Nat → Bool
  | [], _ => ls.isEmpty
  | f :: fs, o => match ls with
    | [] => false
    | l :: rest => f.offset == o && l.length == P.cellsOf f.type && rowOk P rest fs (o + l.length)

/-- The types of a type's scalar cells, in order. -/
def leafT (P : Program) : Nat → TypeId → Option (List TypeId)
  | 0, _ => none
  | d + 1, t => match P.underlying t with
    | some (.struct fs) => (fs.toList.mapM fun f => leafT P d f.type).bind fun ls => if rowOk P ls fs.toList 0 && ls.flatten.length == P.cellsOf t then some ls.flatten else none
    | some (.array n e) => (leafT P d e).bind fun l => if l.length == P.cellsOf e && n * l.length == P.cellsOf t then some (List.replicate n l).flatten else none
    | _ => if P.cellsOf t == 1 then some [t] else none

section
variable {H : Type} {enc : TypeId × Value → H} {P : Program} {w : World} {base : Nat} {sp : Nat → Bool} {held : Bool}

/-- Cells, each of which reads at its own type. -/
def Leafs (enc : TypeId × Value → H) (P : Program) (w : World) (base : Nat) (sp : Nat → Bool) (held : Bool) (ts : List TypeId) (cs : List Value) : Prop :=
  cs.length = ts.length ∧ ∀ (i : Nat) (t : TypeId), ts[i]? = some t → ∃ c n y, cs[i]? = some c ∧ DataW.trod enc P w base sp held n t [c] = some y

theorem Leafs.append {ts us : List TypeId} {cs es : List Value} (h : Leafs enc P w base sp held ts cs) (k : Leafs enc P w base sp held us es) : Leafs enc P w base sp held (ts ++ us) (cs ++ es) := by
  refine ⟨by simp [h.1, k.1], fun i t ht => ?_⟩
  rcases Nat.lt_or_ge i ts.length with hi | hi
  · rw [List.getElem?_append_left hi] at ht
    obtain ⟨c, n, y, hc, hy⟩ := h.2 i t ht
    exact ⟨c, n, y, by rw [List.getElem?_append_left (by rw [h.1]; exact hi)]; exact hc, hy⟩
  · rw [List.getElem?_append_right hi] at ht
    obtain ⟨c, n, y, hc, hy⟩ := k.2 _ t ht
    exact ⟨c, n, y, by rw [List.getElem?_append_right (by rw [h.1]; exact hi), h.1]; exact hc, hy⟩

theorem leafs_row : ∀ (fs : List Field) (ls : List (List TypeId)) (o : Nat) (cs : List Value), rowOk P ls fs o = true → o + ls.flatten.length = cs.length →
    (∀ (i : Nat) (f : Field) (l : List TypeId), fs[i]? = some f → ls[i]? = some l → Leafs enc P w base sp held l ((cs.drop f.offset).take (P.cellsOf f.type))) → Leafs enc P w base sp held ls.flatten (cs.drop o)
  | [], ls, o, cs, h, hl, _ => by
    have h0 : ls = [] := by simpa [rowOk] using h
    subst h0
    simp at hl
    exact ⟨by simp [hl], fun i t ht => by simp at ht⟩
  | f :: fs, [], o, cs, h, _, _ => by simp [rowOk] at h
  | f :: fs, l :: ls, o, cs, h, hl, hf => by
    simp only [rowOk, Bool.and_eq_true, beq_iff_eq] at h
    obtain ⟨⟨ho, hlen⟩, hr⟩ := h
    have h1 := hf 0 f l rfl rfl
    have h2 := leafs_row fs ls (o + l.length) cs hr (by simp only [List.flatten_cons, List.length_append] at hl; omega) (fun i f l hi hl => hf (i + 1) f l (by simpa using hi) (by simpa using hl))
    rw [ho, ← hlen] at h1
    have := h1.append h2
    rw [← List.drop_drop, List.take_append_drop] at this
    simpa using this

theorem leafs_rep (l : List TypeId) : ∀ (n k : Nat) (cs : List Value), cs.length = (k + n) * l.length → (∀ i, i < k + n → Leafs enc P w base sp held l ((cs.drop (i * l.length)).take l.length)) →
    Leafs enc P w base sp held (List.replicate n l).flatten (cs.drop (k * l.length))
  | 0, k, cs, hl, _ => ⟨by simp [hl], fun i t ht => by simp at ht⟩
  | n + 1, k, cs, hl, hf => by
    have h1 := hf k (by omega)
    have h2 := leafs_rep l n (k + 1) cs (by rw [hl]; congr 1; omega) (fun i hi => hf i (by omega))
    have := h1.append h2
    rw [Nat.succ_mul, ← List.drop_drop, List.take_append_drop] at this
    simpa [List.replicate_succ] using this

theorem trod_leafs : ∀ (d fuel : Nat) (t : TypeId) (ts : List TypeId) (cs : List Value) (x : DataW H × List MemPlace), leafT P d t = some ts → DataW.trod enc P w base sp held fuel t cs = some x → cs.length = P.cellsOf t → Leafs enc P w base sp held ts cs
  | 0, _, _, _, _, _, h, _, _ => by simp [leafT] at h
  | d + 1, fuel, t, ts, cs, x, h, hx, hc => by
    unfold leafT at h
    split at h
    · rename_i fs hu
      obtain ⟨xs, n, _, _, hlen, hxl, hf⟩ := DataW.trod_struct hu hx
      simp only [Option.bind_eq_some_iff] at h
      obtain ⟨ls, hls, h⟩ := h
      split at h
      · rename_i hok
        simp only [Bool.and_eq_true, beq_iff_eq] at hok
        cases h
        have := leafs_row (enc := enc) (w := w) (base := base) (sp := sp) (held := held) fs.toList ls 0 cs hok.1 (by simp [hok.2, hc]) (fun i f l hi hl => by
          have hfi := hf i f (by simpa using hi)
          obtain ⟨b, hb, hl2⟩ := Lib.mapM_at hls i f hi
          obtain rfl := Option.some.inj (hl.symm.trans hb)
          have hlt : i < xs.length := by
            have := (List.getElem?_eq_some_iff.1 hi).1
            simp at this
            omega
          rw [List.getElem?_eq_getElem hlt] at hfi
          refine trod_leafs d n f.type l _ _ hl2 hfi ?_
          obtain ⟨l2, hl3⟩ : ∃ l2, ls[i]? = some l2 := ⟨l, hl⟩
          -- the length
          have key : ∀ (fs : List Field) (ls : List (List TypeId)) (o i : Nat) (f : Field), rowOk P ls fs o = true → fs[i]? = some f → f.offset + P.cellsOf f.type ≤ o + ls.flatten.length := by
            intro fs
            induction fs with
            | nil => intro ls o i f _ h; simp at h
            | cons g gs ih =>
              intro ls o i f hr h
              cases ls with
              | nil => simp [rowOk] at hr
              | cons m ms =>
                simp only [rowOk, Bool.and_eq_true, beq_iff_eq] at hr
                obtain ⟨⟨ho, hm⟩, hr⟩ := hr
                cases i with
                | zero =>
                  simp at h
                  subst h
                  simp only [List.flatten_cons, List.length_append]
                  omega
                | succ i =>
                  have := ih ms _ i f hr (by simpa using h)
                  simp only [List.flatten_cons, List.length_append]
                  omega
          have := key fs.toList ls 0 i f hok.1 hi
          simp only [List.length_take, List.length_drop]
          omega)
        simpa using this
      · cases h
    · rename_i n e hu
      obtain ⟨xs, m, _, _, hlen, hxl, hf⟩ := DataW.trod_array hu hx
      simp only [Option.bind_eq_some_iff] at h
      obtain ⟨l, hl, h⟩ := h
      split at h
      · rename_i hok
        simp only [Bool.and_eq_true, beq_iff_eq] at hok
        cases h
        have := leafs_rep (enc := enc) (P := P) (w := w) (base := base) (sp := sp) (held := held) l n 0 cs (by rw [hc, ← hok.2]; simp) (fun i hi => by
          have hfi := hf i (by omega)
          rw [List.getElem?_eq_getElem (by omega), ← hok.1] at hfi
          refine trod_leafs d m e l _ _ hl hfi ?_
          have : i * l.length + l.length ≤ n * l.length := by rw [← Nat.succ_mul]; exact Nat.mul_le_mul_right _ (by omega)
          simp only [List.length_take, List.length_drop]
          omega)
        simpa using this
      · cases h
    · split at h
      · rename_i hok
        simp only [beq_iff_eq] at hok
        cases h
        refine ⟨by simp [hc, hok], fun i t' ht => ?_⟩
        match cs, hc.trans hok with
        | [c], _ =>
          cases i with
          | zero =>
            simp at ht
            subst ht
            exact ⟨c, fuel, x, rfl, hx⟩
          | succ i => simp at ht
      · cases h

/-- Of a struct or an array by value. -/
theorem open_leafs {r : Reach} {b0 : Nat} {t : TypeId} {v : Value} {x : DataW H} {p : List MemPlace} {ts : List TypeId} {d : Nat} (hl : leafT P d t = some ts)
    (hk : ∃ k, P.underlying t = some k ∧ (match k with | .struct _ | .array _ _ => True | _ => False))
    (hv : Value.okWide P w r b0 t v) (h : DataW.Trod enc P w base sp held t v x p) : ∃ cs, v = .agg cs ∧ Leafs enc P w base sp held ts cs.toList := by
  obtain ⟨k, hk1, hk2⟩ := hk
  have : ∃ cs, v = .agg cs ∧ cs.size = P.cellsOf t := by
    unfold Value.okWide at hv
    rw [hk1] at hv
    cases k <;> simp at hk2 <;> (obtain ⟨cs, h1, h2, _⟩ := hv; exact ⟨cs, h1, h2⟩)
  obtain ⟨cs, rfl, hsz⟩ := this
  obtain ⟨fuel, hf⟩ := h
  exact ⟨cs, rfl, trod_leafs d fuel t ts _ _ hl (by simpa [Value.cells] using hf) (by simpa using hsz)⟩

theorem Leafs.int {ts : List TypeId} {cs : List Value} (h : Leafs enc P w base sp held ts cs) {i : Nat} {t : TypeId} {k : IntKind} (ht : ts[i]? = some t) (hu : P.underlying t = some (.int k)) : ∃ z, cs[i]? = some (.int k z) ∧ (Lit.int k z).wf = true := by
  obtain ⟨c, n, y, hc, hy⟩ := h.2 i t ht
  obtain ⟨z, hz, _, hw⟩ := DataW.trod_int hu hy
  simp at hz
  subst hz
  exact ⟨z, hc, hw⟩
theorem Leafs.bool {ts : List TypeId} {cs : List Value} (h : Leafs enc P w base sp held ts cs) {i : Nat} {t : TypeId} (ht : ts[i]? = some t) (hu : P.underlying t = some .bool) : ∃ z, cs[i]? = some (.bool z) := by
  obtain ⟨c, n, y, hc, hy⟩ := h.2 i t ht
  obtain ⟨z, hz, _⟩ := DataW.trod_bool hu hy
  simp at hz
  subst hz
  exact ⟨z, hc⟩
end

end Go.Proofs.YtkfnjpmigifomaaDoor
