/- What this text holds: how a walk of a law becomes its row: each argument reads as it did behind a call that makes memory at most. No condition. What this text holds: how an argument's reading gives its cells: structs and arrays down to their scalar cells, whatever their number. No condition. What this text holds: ints, pairs and slices of ints as arguments. No condition. What this text holds: slices of structs of scalars as arguments. No condition. What this text holds: slices of structs as arguments, as lists. No condition. What this text holds: a table of scalars, structs and arrays that reads as a datum holds just that datum's values, in order. No condition. What this text holds: programs as arguments; the table of ops as its initialiser lays it. No condition. What this text holds: a configuration as an argument; the table of limits out of a row's list. No condition. What this text holds: the arguments of the laws of layer 11; the two tables as their initialisers lay them. No condition. -/
import Derived.Test.YtkobeajbiendlaaDoorBas
import Derived.Test.YtkobeajbiendlaaDoorCards
import Derived.Test.YtkobeajbiendlaaDoorTie
import Derived.ProofKit
import Derived.OpenShut
import Derived.Deep.DeepHandedRow
import Derived.Deep.Slices
import Derived.Deep.Fields
import Derived.Lib.LaidTab
import Derived.Test.YtkobeajbiendlaaDoorIsx
import Derived.Test.YtkobeajbiendlaaDoorPla
namespace Go.Proofs.YtkobeajbiendlaaDoor
open Go.ChangeShapes Go.WideShapes Go.ChangeAt Go.RowKit

theorem own : ownKnob Tryd.prog.godebug = none := by kernel_rfl
theorem laidOut : laidOutB Tryd.prog = true := by kernel_rfl

section
variable {H : Type} {enc : TypeId × Value → H} {P : Program}

theorem trodAll_below (hl : laidOutB P = true) {W W' : World} (hb : Below W.heap.size W W') {sp : Nat → Bool} :
    ∀ (ts : List TypeId) (vs : List Value) (ds : List (DataW H)) (ps : List MemPlace), (∀ t ∈ ts, P.readableRec t = true ∧ t < P.types.size) →
      DataW.TrodAll enc P W 0 (fun _ => true) true ts vs ds ps → (∀ p ∈ ps, sp p.block = true) → (∀ p ∈ ps, p.block < W.heap.size) → DataW.TrodAll enc P W' 0 sp true ts vs ds ps
  | [], _, _, _, _, h, _, _ => by
    obtain ⟨rfl, rfl, rfl⟩ := trodAll_nil h
    exact trodAll_mk0
  | t :: ts, _, _, _, ht, h, hs, hlt => by
    obtain ⟨v, vs1, d, ds1, a, b, rfl, rfl, rfl, h1, h2⟩ := trodAll_cons h
    refine trodAll_cons_mk ?_ (trodAll_below hl hb ts vs1 ds1 b (fun u hu => ht u (List.mem_cons_of_mem _ hu)) h2 (fun p hp => hs p (List.mem_append_right _ hp)) (fun p hp => hlt p (List.mem_append_right _ hp)))
    exact WideElems.Trod_stays hl (ht t List.mem_cons_self).1 (ht t List.mem_cons_self).2 h1 (fun p hp => hb.same (hlt p (List.mem_append_left _ hp))) (fun p hp => hs p (List.mem_append_left _ hp))

/-- A LAW's END: it returned true, and nothing that was there has turned. -/
theorem law_post {f : Func} {s : ChangeSpec} {W W' : World} {args : Array Value} {ds gs : List (DataW H)} {before : List MemPlace} {tb : TypeId}
    (hl : laidOutB P = true) (hts : ∀ t ∈ f.params.toList, P.readableRec t = true ∧ t < P.types.size)
    (hrt : f.resultTypes = #[tb]) (htb : P.underlying tb = some .bool) (hv : s.vars = [])
    (hs : s.fn H (ds ++ gs) = { results := [.lit (.bool true)], args := ds })
    (hW : DataW.Whole enc P f.params.toList s.vars false W args.toList ds gs before)
    (hb : Below W.heap.size W W') : s.post enc P f false true false false W args (.bool true) W' := by
  have hlt : ∀ p ∈ before, p.block < W.heap.size := fun p hp => hW.lt p hp
  have hW' := hW
  obtain ⟨p, q, hA, hV, rfl, hz, hn⟩ := hW
  rw [hv] at hV
  obtain ⟨rfl, rfl⟩ := trodVars_none hV
  simp only [List.append_nil] at *
  refine ⟨ds, [], p, [], p, [], by simpa using hW', ?_, ?_, ?_, World.keptBut_mono (fun x hx => ⟨hx, ?_⟩) (hb.frame (· ∈ p)), fun h => by cases h⟩
  · rw [List.append_nil, hs, hrt]
    exact trodAll_mk1 (shut_bool htb true)
  · rw [List.append_nil, hs]
    exact trodAll_below hl hb _ _ _ _ hts hA (fun x hx => by simpa using hlt x hx) hlt
  · rw [List.append_nil, hs, hv]
    rfl
  · exact .inr (.inl hx)
end

end Go.Proofs.YtkobeajbiendlaaDoor
namespace Go.Proofs.YtkobeajbiendlaaDoor
open Go.ChangeShapes Go.WideShapes Go.ChangeAt Go.RowKit Go.Deep

/-- Offsets follow one another. -/
def rowOk (P : Program) (ls : List (List TypeId)) : List Field → Nat → Bool
  | [], _ => ls.isEmpty
  | f :: fs, o => match ls with
    | [] => false
    | l :: rest => f.offset == o && l.length == P.cellsOf f.type && rowOk P rest fs (o + l.length)

/-- The types of a type's scalar cells, in order. -/
def leafT (P : Program) : Nat → TypeId → Option (List TypeId)
  | 0, _ => none
  | d + 1, t => match P.underlying t with
    | some (.struct fs) => (fs.toList.mapM fun f => leafT P d f.type).bind fun ls => if rowOk P ls fs.toList 0 && ls.flatten.length == P.cellsOf t then some ls.flatten else none
    | some (.array n e) => (leafT P d e).bind fun l => if l.length == P.cellsOf e && n * l.length == P.cellsOf t then some (List.replicate n l).flatten else none
    | _ => if P.cellsOf t == 1 then some [t] else none

section
variable {H : Type} {enc : TypeId × Value → H} {P : Program} {w : World} {base : Nat} {sp : Nat → Bool} {held : Bool}

/-- Cells, each of which reads at its own type. -/
def Leafs (enc : TypeId × Value → H) (P : Program) (w : World) (base : Nat) (sp : Nat → Bool) (held : Bool) (ts : List TypeId) (cs : List Value) : Prop :=
  cs.length = ts.length ∧ ∀ (i : Nat) (t : TypeId), ts[i]? = some t → ∃ c n y, cs[i]? = some c ∧ DataW.trod enc P w base sp held n t [c] = some y

theorem Leafs.append {ts us : List TypeId} {cs es : List Value} (h : Leafs enc P w base sp held ts cs) (k : Leafs enc P w base sp held us es) : Leafs enc P w base sp held (ts ++ us) (cs ++ es) := by
  refine ⟨by simp [h.1, k.1], fun i t ht => ?_⟩
  rcases Nat.lt_or_ge i ts.length with hi | hi
  · rw [List.getElem?_append_left hi] at ht
    obtain ⟨c, n, y, hc, hy⟩ := h.2 i t ht
    exact ⟨c, n, y, by rw [List.getElem?_append_left (by rw [h.1]; exact hi)]; exact hc, hy⟩
  · rw [List.getElem?_append_right hi] at ht
    obtain ⟨c, n, y, hc, hy⟩ := k.2 _ t ht
    exact ⟨c, n, y, by rw [List.getElem?_append_right (by rw [h.1]; exact hi), h.1]; exact hc, hy⟩

theorem leafs_row : ∀ (fs : List Field) (ls : List (List TypeId)) (o : Nat) (cs : List Value), rowOk P ls fs o = true → o + ls.flatten.length = cs.length →
    (∀ (i : Nat) (f : Field) (l : List TypeId), fs[i]? = some f → ls[i]? = some l → Leafs enc P w base sp held l ((cs.drop f.offset).take (P.cellsOf f.type))) → Leafs enc P w base sp held ls.flatten (cs.drop o)
  | [], ls, o, cs, h, hl, _ => by
    have h0 : ls = [] := by simpa [rowOk] using h
    subst h0
    simp at hl
    exact ⟨by simp [hl], fun i t ht => by simp at ht⟩
  | f :: fs, [], o, cs, h, _, _ => by simp [rowOk] at h
  | f :: fs, l :: ls, o, cs, h, hl, hf => by
    simp only [rowOk, Bool.and_eq_true, beq_iff_eq] at h
    obtain ⟨⟨ho, hlen⟩, hr⟩ := h
    have h1 := hf 0 f l rfl rfl
    have h2 := leafs_row fs ls (o + l.length) cs hr (by simp only [List.flatten_cons, List.length_append] at hl; omega) (fun i f l hi hl => hf (i + 1) f l (by simpa using hi) (by simpa using hl))
    rw [ho, ← hlen] at h1
    have := h1.append h2
    rw [← List.drop_drop, List.take_append_drop] at this
    simpa using this

theorem leafs_rep (l : List TypeId) : ∀ (n k : Nat) (cs : List Value), cs.length = (k + n) * l.length → (∀ i, i < k + n → Leafs enc P w base sp held l ((cs.drop (i * l.length)).take l.length)) →
    Leafs enc P w base sp held (List.replicate n l).flatten (cs.drop (k * l.length))
  | 0, k, cs, hl, _ => ⟨by simp [hl], fun i t ht => by simp at ht⟩
  | n + 1, k, cs, hl, hf => by
    have h1 := hf k (by omega)
    have h2 := leafs_rep l n (k + 1) cs (by rw [hl]; congr 1; omega) (fun i hi => hf i (by omega))
    have := h1.append h2
    rw [Nat.succ_mul, ← List.drop_drop, List.take_append_drop] at this
    simpa [List.replicate_succ] using this

theorem trod_leafs : ∀ (d fuel : Nat) (t : TypeId) (ts : List TypeId) (cs : List Value) (x : DataW H × List MemPlace), leafT P d t = some ts → DataW.trod enc P w base sp held fuel t cs = some x → cs.length = P.cellsOf t → Leafs enc P w base sp held ts cs
  | 0, _, _, _, _, _, h, _, _ => by simp [leafT] at h
  | d + 1, fuel, t, ts, cs, x, h, hx, hc => by
    unfold leafT at h
    split at h
    · rename_i fs hu
      obtain ⟨xs, n, _, _, hlen, hxl, hf⟩ := DataW.trod_struct hu hx
      simp only [Option.bind_eq_some_iff] at h
      obtain ⟨ls, hls, h⟩ := h
      split at h
      · rename_i hok
        simp only [Bool.and_eq_true, beq_iff_eq] at hok
        cases h
        have := leafs_row (enc := enc) (w := w) (base := base) (sp := sp) (held := held) fs.toList ls 0 cs hok.1 (by simp [hok.2, hc]) (fun i f l hi hl => by
          have hfi := hf i f (by simpa using hi)
          obtain ⟨b, hb, hl2⟩ := Lib.mapM_at hls i f hi
          obtain rfl := Option.some.inj (hl.symm.trans hb)
          have hlt : i < xs.length := by
            have := (List.getElem?_eq_some_iff.1 hi).1
            simp at this
            omega
          rw [List.getElem?_eq_getElem hlt] at hfi
          refine trod_leafs d n f.type l _ _ hl2 hfi ?_
          obtain ⟨l2, hl3⟩ : ∃ l2, ls[i]? = some l2 := ⟨l, hl⟩
          -- the length
          have key : ∀ (fs : List Field) (ls : List (List TypeId)) (o i : Nat) (f : Field), rowOk P ls fs o = true → fs[i]? = some f → f.offset + P.cellsOf f.type ≤ o + ls.flatten.length := by
            intro fs
            induction fs with
            | nil => intro ls o i f _ h; simp at h
            | cons g gs ih =>
              intro ls o i f hr h
              cases ls with
              | nil => simp [rowOk] at hr
              | cons m ms =>
                simp only [rowOk, Bool.and_eq_true, beq_iff_eq] at hr
                obtain ⟨⟨ho, hm⟩, hr⟩ := hr
                cases i with
                | zero =>
                  simp at h
                  subst h
                  simp only [List.flatten_cons, List.length_append]
                  omega
                | succ i =>
                  have := ih ms _ i f hr (by simpa using h)
                  simp only [List.flatten_cons, List.length_append]
                  omega
          have := key fs.toList ls 0 i f hok.1 hi
          simp only [List.length_take, List.length_drop]
          omega)
        simpa using this
      · cases h
    · rename_i n e hu
      obtain ⟨xs, m, _, _, hlen, hxl, hf⟩ := DataW.trod_array hu hx
      simp only [Option.bind_eq_some_iff] at h
      obtain ⟨l, hl, h⟩ := h
      split at h
      · rename_i hok
        simp only [Bool.and_eq_true, beq_iff_eq] at hok
        cases h
        have := leafs_rep (enc := enc) (P := P) (w := w) (base := base) (sp := sp) (held := held) l n 0 cs (by rw [hc, ← hok.2]; simp) (fun i hi => by
          have hfi := hf i (by omega)
          rw [List.getElem?_eq_getElem (by omega), ← hok.1] at hfi
          refine trod_leafs d m e l _ _ hl hfi ?_
          have : i * l.length + l.length ≤ n * l.length := by rw [← Nat.succ_mul]; exact Nat.mul_le_mul_right _ (by omega)
          simp only [List.length_take, List.length_drop]
          omega)
        simpa using this
      · cases h
    · split at h
      · rename_i hok
        simp only [beq_iff_eq] at hok
        cases h
        refine ⟨by simp [hc, hok], fun i t' ht => ?_⟩
        match cs, hc.trans hok with
        | [c], _ =>
          cases i with
          | zero =>
            simp at ht
            subst ht
            exact ⟨c, fuel, x, rfl, hx⟩
          | succ i => simp at ht
      · cases h

/-- Of a struct or an array by value. -/
theorem open_leafs {r : Reach} {b0 : Nat} {t : TypeId} {v : Value} {x : DataW H} {p : List MemPlace} {ts : List TypeId} {d : Nat} (hl : leafT P d t = some ts)
    (hk : ∃ k, P.underlying t = some k ∧ (match k with | .struct _ | .array _ _ => True | _ => False))
    (hv : Value.okWide P w r b0 t v) (h : DataW.Trod enc P w base sp held t v x p) : ∃ cs, v = .agg cs ∧ Leafs enc P w base sp held ts cs.toList := by
  obtain ⟨k, hk1, hk2⟩ := hk
  have : ∃ cs, v = .agg cs ∧ cs.size = P.cellsOf t := by
    unfold Value.okWide at hv
    rw [hk1] at hv
    cases k <;> simp at hk2 <;> (obtain ⟨cs, h1, h2, _⟩ := hv; exact ⟨cs, h1, h2⟩)
  obtain ⟨cs, rfl, hsz⟩ := this
  obtain ⟨fuel, hf⟩ := h
  exact ⟨cs, rfl, trod_leafs d fuel t ts _ _ hl (by simpa [Value.cells] using hf) (by simpa using hsz)⟩

theorem Leafs.int {ts : List TypeId} {cs : List Value} (h : Leafs enc P w base sp held ts cs) {i : Nat} {t : TypeId} {k : IntKind} (ht : ts[i]? = some t) (hu : P.underlying t = some (.int k)) : ∃ z, cs[i]? = some (.int k z) ∧ (Lit.int k z).wf = true := by
  obtain ⟨c, n, y, hc, hy⟩ := h.2 i t ht
  obtain ⟨z, hz, _, hw⟩ := DataW.trod_int hu hy
  simp at hz
  subst hz
  exact ⟨z, hc, hw⟩
theorem Leafs.bool {ts : List TypeId} {cs : List Value} (h : Leafs enc P w base sp held ts cs) {i : Nat} {t : TypeId} (ht : ts[i]? = some t) (hu : P.underlying t = some .bool) : ∃ z, cs[i]? = some (.bool z) := by
  obtain ⟨c, n, y, hc, hy⟩ := h.2 i t ht
  obtain ⟨z, hz, _⟩ := DataW.trod_bool hu hy
  simp at hz
  subst hz
  exact ⟨z, hc⟩
end

end Go.Proofs.YtkobeajbiendlaaDoor
namespace Go.Proofs.YtkobeajbiendlaaDoor
open Go.ChangeShapes Go.WideShapes Go.ChangeAt Go.RowKit Go.Deep

theorem wf_bd {z : Int} (h : (Lit.int .i64 z).wf = true) : -9223372036854775808 ≤ z ∧ z ≤ 9223372036854775807 := by
  simpa [Lit.wf, IntKind.min, IntKind.max, IntKind.signed, IntKind.bits] using h

section
variable {H : Type} {enc : TypeId × Value → H} {w : World} {base : Nat} {sp : Nat → Bool} {held : Bool}
set_option maxRecDepth 100000 in
theorem open_i {r : Reach} {b0 : Nat} {v : Value} {x : DataW H} {p : List MemPlace}
    (hv : Value.okWide Tryd.prog w r b0 3 v) (h : DataW.Trod enc Tryd.prog w base sp held 3 v x p) : ∃ z : Int, v = .int .i64 z ∧ (Lit.int .i64 z).wf = true := by
  obtain ⟨z, h1, _, _, h2⟩ := open_int Tryd.underlying3 hv h
  exact ⟨z, h1, h2⟩
set_option maxRecDepth 100000 in
theorem open_two {r : Reach} {b0 : Nat} {v : Value} {x : DataW H} {p : List MemPlace}
    (hv : Value.okWide Tryd.prog w r b0 60 v) (h : DataW.Trod enc Tryd.prog w base sp held 60 v x p) : ∃ y z : Int, v = .agg #[.int .i64 y, .int .i64 z] ∧ (Lit.int .i64 y).wf = true ∧ (Lit.int .i64 z).wf = true := by
  obtain ⟨cs, rfl, hl⟩ := open_leafs (d := 5) (ts := [3, 3]) (by kernel_rfl) ⟨_, Tryd.underlying60, trivial⟩ hv h
  obtain ⟨l⟩ := cs
  obtain ⟨a0, h0, w0⟩ := hl.int (i := 0) rfl Tryd.underlying3
  obtain ⟨a1, h1, w1⟩ := hl.int (i := 1) rfl Tryd.underlying3
  have hlen := hl.1
  match l, hlen with
  | [c0, c1], _ =>
    simp at h0 h1
    exact ⟨a0, a1, by simp [h0, h1], w0, w1⟩
set_option maxRecDepth 100000 in
theorem open_sl {r : Reach} {b0 : Nat} {v : Value} {x : DataW H} {p : List MemPlace}
    (hv : Value.okWide Tryd.prog w r b0 67 v) (h : DataW.Trod enc Tryd.prog w base sp held 67 v x p) :
    ∃ (A : Option Addr) (cap : Nat) (xs : List Int), v = .slice A xs.length cap ∧ SlI w A xs ∧ xs.length ≤ cap ∧ cap ≤ maxLen ∧ (∀ n ∈ xs, (Lit.int .i64 n).wf = true) := by
  obtain ⟨a0, len, cap, rfl⟩ := okWide_slice Tryd.underlying67 hv
  obtain ⟨fuel, hf⟩ := h
  have hf' : DataW.trod enc Tryd.prog w base sp held fuel 67 [.slice a0 len cap] = some (x, p) := hf
  rcases open_ints Tryd.underlying67 Tryd.underlying3 (by kernel_rfl) hf' with ⟨hcs, _⟩ | ⟨a, len', cap', zs, hcs, _, hl, hm, hz, _, hcell, hwz⟩
  · simp at hcs
    obtain ⟨rfl, rfl, rfl⟩ := hcs
    exact ⟨none, 0, [], rfl, fun h => absurd h (by simp), Nat.le_refl _, by decide, by simp⟩
  · simp at hcs
    obtain ⟨rfl, rfl, rfl⟩ := hcs
    have hle : len ≤ zs.length := by rw [hz]; split <;> omega
    have hlen : (zs.take len).length = len := by simp [hle]
    refine ⟨some a, cap, zs.take len, by rw [hlen], fun h0 => ?_, by rw [hlen]; exact hl, hm, fun n hn => hwz n (List.mem_of_mem_take hn)⟩
    rw [hlen] at h0
    obtain ⟨b, off, rfl, hc⟩ := ints_at hcell (by omega)
    refine ⟨b, off, rfl, World.block_lt_of_cell? w _ (hc 0 (by omega)), fun i hi => ?_⟩
    rw [hlen] at hi
    rw [hc i (by omega), List.getElem?_take, if_pos hi]
    simp [List.getD]
end

end Go.Proofs.YtkobeajbiendlaaDoor
namespace Go.Proofs.YtkobeajbiendlaaDoor
open Go.ChangeShapes Go.WideShapes Go.ChangeAt Go.RowKit Go.Deep

section
variable {H : Type} {enc : TypeId × Value → H} {w : World} {base : Nat} {sp : Nat → Bool} {held : Bool}
theorem open_rows {t e : TypeId} {ts : List TypeId} {d fuel : Nat} {cs : List Value} {x : DataW H × List MemPlace} (ht : Tryd.prog.underlying t = some (.slice e)) (hl : leafT Tryd.prog d e = some ts) (hC : Tryd.prog.cellsOf e = ts.length) (hpos : 0 < ts.length)
    (h : DataW.trod enc Tryd.prog w base sp held fuel t cs = some x) :
    ∃ (A : Option Addr) (len cap : Nat), cs = [.slice A len cap] ∧ len ≤ cap ∧ cap ≤ maxLen ∧
      (0 < len → ∃ b off, A = some ⟨b, off, none⟩ ∧ b < w.heap.size ∧ ∀ i, i < len → ∃ es : List Value, Leafs enc Tryd.prog w base sp held ts es ∧ ∀ j, j < ts.length → w.cell? ⟨b, off + i * ts.length + j, none⟩ = es[j]?) := by
  rcases open_slice ht h with ⟨hcs, _⟩ | ⟨a, len, cap, m, n, D, Pl, hcs, _, hle, hm, hmm, _, hi⟩
  · exact ⟨none, 0, 0, hcs, Nat.le_refl _, Nat.zero_le _, fun h => absurd h (by simp)⟩
  · refine ⟨some a, len, cap, hcs, hle, hm, fun h0 => ?_⟩
    have hlm : len ≤ m := by rw [hmm]; split <;> omega
    have key : ∀ i, i < len → ∃ es : List Value, Leafs enc Tryd.prog w base sp held ts es ∧ ∀ j, j < ts.length → w.cell? (a.add (i * ts.length + j)) = es[j]? := by
      intro i hil
      obtain ⟨cs', hc, ht'⟩ := hi i (by omega)
      obtain ⟨_, hcl, hat⟩ := World.cells?_some hc
      refine ⟨cs', trod_leafs d n e ts cs' _ hl ht' (by rw [hcl]), fun j hj => ?_⟩
      rw [← hat j (by rw [hC]; exact hj), add_add, hC]
    obtain ⟨b, off, spot⟩ := a
    have hspot : spot = none := by
      obtain ⟨es, hlf, hc⟩ := key 0 h0
      have h1 := hc 0 hpos
      have h2 : es[0]? = some (es[0]'(by rw [hlf.1]; exact hpos)) := List.getElem?_eq_getElem _
      rw [h2] at h1
      simpa [Addr.add] using World.cell?_spot h1
    subst hspot
    refine ⟨b, off, rfl, ?_, fun i hil => ?_⟩
    · obtain ⟨es, hlf, hc⟩ := key 0 h0
      have h1 := hc 0 hpos
      have h2 : es[0]? = some (es[0]'(by rw [hlf.1]; exact hpos)) := List.getElem?_eq_getElem _
      rw [h2, Addr.add_lit] at h1
      exact World.block_lt_of_cell? w _ h1
    · obtain ⟨es, hlf, hc⟩ := key i hil
      refine ⟨es, hlf, fun j hj => ?_⟩
      rw [← hc j hj, Addr.add_lit, Nat.add_assoc]
end

end Go.Proofs.YtkobeajbiendlaaDoor
namespace Go.Proofs.YtkobeajbiendlaaDoor
open Go.ChangeShapes Go.WideShapes Go.ChangeAt Go.RowKit Go.Deep

section
variable {H : Type} {enc : TypeId × Value → H} {w : World} {base : Nat} {sp : Nat → Bool} {held : Bool}
theorem open_list {α : Type} (x0 : α) (Q : α → List Value → Prop) {t e : TypeId} {ts : List TypeId} {d fuel : Nat} {cs : List Value} {x : DataW H × List MemPlace} (ht : Tryd.prog.underlying t = some (.slice e)) (hl : leafT Tryd.prog d e = some ts) (hC : Tryd.prog.cellsOf e = ts.length) (hpos : 0 < ts.length)
    (hQ : ∀ es, Leafs enc Tryd.prog w base sp held ts es → ∃ x : α, Q x es)
    (h : DataW.trod enc Tryd.prog w base sp held fuel t cs = some x) :
    ∃ (A : Option Addr) (cap : Nat) (xs : List α), cs = [.slice A xs.length cap] ∧ xs.length ≤ cap ∧ cap ≤ maxLen ∧ (A = none → cap = 0) ∧
      (0 < xs.length → ∃ b off, A = some ⟨b, off, none⟩ ∧ b < w.heap.size ∧ ∀ i, i < xs.length → ∃ es : List Value, Q (xs[i]?.getD x0) es ∧ es.length = ts.length ∧ ∀ j, j < ts.length → w.cell? ⟨b, off + i * ts.length + j, none⟩ = es[j]?) := by
  have hnone : ∀ A len cap, cs = [.slice A len cap] → A = none → cap = 0 := by
    intro A len cap he h0
    subst h0
    rcases open_slice ht h with ⟨h1, _⟩ | ⟨a, len', cap', _, _, _, _, h1, _⟩
    · rw [he] at h1
      simp at h1
      exact h1.2
    · rw [he] at h1
      simp at h1
  obtain ⟨A, len, cap, hcs, hlc, hcm, hr⟩ := open_rows ht hl hC hpos h
  by_cases h0 : 0 < len
  · obtain ⟨b, off, rfl, hb, hi⟩ := hr h0
    have key : ∀ i, ∃ o : α, i < len → ∃ es : List Value, Q o es ∧ es.length = ts.length ∧ ∀ j, j < ts.length → w.cell? ⟨b, off + i * ts.length + j, none⟩ = es[j]? := by
      intro i
      by_cases hil : i < len
      · obtain ⟨es, hlf, hc⟩ := hi i hil
        obtain ⟨o, ho⟩ := hQ es hlf
        exact ⟨o, fun _ => ⟨es, ho, hlf.1, hc⟩⟩
      · exact ⟨x0, fun h => absurd h hil⟩
    obtain ⟨F, hF⟩ := Classical.axiomOfChoice key
    refine ⟨_, cap, (List.range len).map F, ?_, by simpa using hlc, hcm, (fun e => by cases e), fun _ => ⟨b, off, rfl, hb, fun i hil => ?_⟩⟩
    · rw [hcs]
      simp
    · have hil' : i < len := by simpa using hil
      have e : ((List.range len).map F)[i]?.getD x0 = F i := by simp [hil']
      rw [e]
      exact hF i hil'
  · obtain rfl : len = 0 := by omega
    exact ⟨A, cap, [], by rw [hcs]; rfl, Nat.zero_le _, hcm, hnone A 0 cap hcs, fun h => absurd h (by simp)⟩
end

end Go.Proofs.YtkobeajbiendlaaDoor
namespace Go.Proofs.YtkobeajbiendlaaDoor
open Go.ChangeShapes Go.WideShapes Go.ChangeAt Go.RowKit Go.Deep

/-- The values that a datum's cells hold. -/
def flatV {H : Type} : Nat → DataW H → List Value
  | 0, _ => []
  | n + 1, .agg xs => (xs.map (flatV n)).flatten
  | _ + 1, .lit (.int k z) => [.int k z]
  | _ + 1, .lit (.bool b) => [.bool b]
  | _ + 1, .lit (.string bs) => [.string ⟨bs.toArray⟩]
  | _ + 1, _ => []

/-- A type of scalars alone, whose cells follow one another. -/
def scalarT (P : Program) : Nat → TypeId → Bool
  | 0, _ => false
  | d + 1, t => match P.underlying t with
    | some (.struct fs) => (fs.toList.all fun f => scalarT P d f.type) && rowOk P (fs.toList.map fun f => List.replicate (P.cellsOf f.type) 0) fs.toList 0 && (fs.toList.map fun f => P.cellsOf f.type).sum == P.cellsOf t
    | some (.array n e) => scalarT P d e && n * P.cellsOf e == P.cellsOf t
    | some (.int _) | some .bool | some .string => P.cellsOf t == 1
    | _ => false

section
variable {H : Type} {enc : TypeId × Value → H} {P : Program} {w : World} {base : Nat} {sp : Nat → Bool} {held : Bool}

theorem cat_row : ∀ (fs : List Field) (o : Nat) (cs : List Value) (segs : List (List Value)), rowOk P (fs.map fun f => List.replicate (P.cellsOf f.type) 0) fs o = true → o + (fs.map fun f => P.cellsOf f.type).sum = cs.length →
    segs.length = fs.length → (∀ (i : Nat) (f : Field), fs[i]? = some f → segs[i]? = some ((cs.drop f.offset).take (P.cellsOf f.type))) → cs.drop o = segs.flatten
  | [], o, cs, segs, _, hl, hs, _ => by
    have : segs = [] := List.eq_nil_of_length_eq_zero (by simpa using hs)
    subst this
    simp at hl
    simp [hl]
  | f :: fs, o, cs, segs, h, hl, hs, hf => by
    cases segs with
    | nil => simp at hs
    | cons s segs =>
      simp only [List.map_cons, rowOk, Bool.and_eq_true, beq_iff_eq, List.length_replicate] at h
      obtain ⟨⟨ho, _⟩, hr⟩ := h
      have h1 := hf 0 f rfl
      simp only [List.getElem?_cons_zero, Option.some.injEq] at h1
      have h2 := cat_row fs (o + P.cellsOf f.type) cs segs hr (by simp only [List.map_cons, List.sum_cons] at hl; omega) (by simpa using hs) (fun i f hi => by simpa using hf (i + 1) f (by simpa using hi))
      rw [List.flatten_cons, ← h2, h1, ho, ← List.drop_drop, List.take_append_drop]

theorem cat_rep (m : Nat) : ∀ (n k : Nat) (cs : List Value) (segs : List (List Value)), cs.length = (k + n) * m → segs.length = n → (∀ i, i < n → segs[i]? = some ((cs.drop ((k + i) * m)).take m)) → cs.drop (k * m) = segs.flatten
  | 0, k, cs, segs, hl, hs, _ => by
    have : segs = [] := List.eq_nil_of_length_eq_zero hs
    subst this
    simp [hl]
  | n + 1, k, cs, segs, hl, hs, hf => by
    cases segs with
    | nil => simp at hs
    | cons s segs =>
      have h1 := hf 0 (by omega)
      simp only [List.getElem?_cons_zero, Option.some.injEq, Nat.add_zero] at h1
      have h2 := cat_rep m n (k + 1) cs segs (by rw [hl]; congr 1; omega) (by simpa using hs) (fun i hi => by
        have := hf (i + 1) (by omega)
        rw [show k + (i + 1) = k + 1 + i by omega] at this
        simpa using this)
      rw [List.flatten_cons, ← h2, h1, Nat.succ_mul, ← List.drop_drop, List.take_append_drop]

theorem flat_of_trod : ∀ (d fuel : Nat) (t : TypeId) (cs : List Value) (x : DataW H) (p : List MemPlace), scalarT P d t = true → DataW.trod enc P w base sp held fuel t cs = some (x, p) → cs = flatV d x
  | 0, _, _, _, _, _, h, _ => by simp [scalarT] at h
  | d + 1, fuel, t, cs, x, p, h, hx => by
    unfold scalarT at h
    split at h
    · rename_i fs hu
      obtain ⟨xs, n, _, he, hlen, hxl, hf⟩ := DataW.trod_struct hu hx
      simp only [Prod.mk.injEq] at he
      obtain ⟨rfl, _⟩ := he
      simp only [Bool.and_eq_true, beq_iff_eq] at h
      obtain ⟨⟨hall, hrow⟩, hsum⟩ := h
      have := cat_row fs.toList 0 cs (xs.map fun y => flatV d y.1) hrow (by rw [hsum, hlen]; omega) (by simp [hxl]) (fun i f hi => by
        have hi' : i < xs.length := by have := (List.getElem?_eq_some_iff.1 hi).1; simp at this; omega
        have hfi := hf i f (by simpa using hi)
        rw [List.getElem?_eq_getElem hi'] at hfi
        have hm : f ∈ fs.toList := List.mem_of_getElem? hi
        have := flat_of_trod d n f.type _ _ _ (List.all_eq_true.1 hall f hm) hfi
        rw [this]
        simp [List.getElem?_eq_getElem hi'])
      simpa [flatV, Function.comp_def] using this
    · rename_i n e hu
      obtain ⟨xs, m, _, he, hlen, hxl, hf⟩ := DataW.trod_array hu hx
      simp only [Prod.mk.injEq] at he
      obtain ⟨rfl, _⟩ := he
      simp only [Bool.and_eq_true, beq_iff_eq] at h
      have := cat_rep (P.cellsOf e) n 0 cs (xs.map fun y => flatV d y.1) (by rw [hlen, ← h.2]; simp) (by simp [hxl]) (fun i hi => by
        have hfi := hf i hi
        rw [List.getElem?_eq_getElem (by omega)] at hfi
        have := flat_of_trod d m e _ _ _ h.1 hfi
        rw [Nat.zero_add, this]
        simp [List.getElem?_eq_getElem (show i < xs.length by omega)])
      simpa [flatV, Function.comp_def] using this
    · rename_i k hu
      obtain ⟨z, rfl, he, _⟩ := DataW.trod_int hu hx
      simp only [Prod.mk.injEq] at he
      obtain ⟨rfl, _⟩ := he
      rfl
    · rename_i hu
      obtain ⟨z, rfl, he⟩ := DataW.trod_bool hu hx
      simp only [Prod.mk.injEq] at he
      obtain ⟨rfl, _⟩ := he
      rfl
    · rename_i hu
      obtain ⟨s, rfl, he, _⟩ := DataW.trod_string hu hx
      simp only [Prod.mk.injEq] at he
      obtain ⟨rfl, _⟩ := he
      simp [flatV]
    · cases h
end

/-- A listed variable holds its datum's values. -/
theorem laid_cells {P : Program} {W : World} {name : String} {d : DataW Unit} {rest : List (String × DataW Unit)} {g : Nat} {t : TypeId} {k : Nat}
    (hg : P.globalNamed name = some g) (hty : (P.globals[g]?).map (·.type) = some t) (hsc : scalarT P k t = true)
    (h : laidMet P ((name, d) :: rest) W) : ∃ ty fr, W.heap[g]? = some (.cells (flatV k d).toArray ty fr) := by
  obtain ⟨ps, ⟨g', t', cs, fuel, p, q, hg', ht', hvar, hd, _, _⟩, _⟩ := h
  obtain rfl := Option.some.inj (hg.symm.trans hg')
  obtain rfl := Option.some.inj (hty.symm.trans ht')
  have hcs := flat_of_trod k fuel t _ _ _ hsc hd
  unfold World.var? at hvar
  rw [hg] at hvar
  simp only [Option.bind_some] at hvar
  split at hvar
  · rename_i cs' ty fr hh
    cases hvar
    exact ⟨ty, fr, by rw [hh, ← hcs]⟩
  · cases hvar

end Go.Proofs.YtkobeajbiendlaaDoor
namespace Go.Proofs.YtkobeajbiendlaaDoor
open Go.ChangeShapes Go.WideShapes Go.ChangeAt Go.RowKit Go.Deep

theorem gOps : Tryd.prog.globalNamed "donjon/isa.ops" = some 0 := by kernel_rfl
theorem gOpsType : (Tryd.prog.globals[(0 : Nat)]?).map (·.type) = some 165 := by kernel_rfl
theorem scOps : scalarT Tryd.prog 5 165 = true := by kernel_rfl
theorem flatOps : (flatV 5 (Rows.laid_donjon_isa_ops : DataW Unit)).toArray = #[.string ⟨#[]⟩, .int .i64 0, .int .i64 0, .int .i64 0, .string ⟨#[115, 101, 116]⟩, .int .i64 1, .int .i64 2, .int .i64 0, .string ⟨#[97, 100, 100]⟩, .int .i64 1, .int .i64 1, .int .i64 1, .string ⟨#[108, 111, 97, 100]⟩, .int .i64 1, .int .i64 1, .int .i64 0, .string ⟨#[115, 116, 111, 114, 101]⟩, .int .i64 1, .int .i64 1, .int .i64 0, .string ⟨#[115, 119, 97, 112]⟩, .int .i64 1, .int .i64 1, .int .i64 0, .string ⟨#[102, 101, 110, 99, 101]⟩, .int .i64 0, .int .i64 0, .int .i64 0, .string ⟨#[119, 111, 114, 108, 100]⟩, .int .i64 3, .int .i64 0, .int .i64 0, .string ⟨#[99, 97, 108, 108]⟩, .int .i64 4, .int .i64 1, .int .i64 1, .string ⟨#[106, 117, 109, 112]⟩, .int .i64 5, .int .i64 0, .int .i64 0, .string ⟨#[122, 101, 114, 111]⟩, .int .i64 1, .int .i64 5, .int .i64 0, .string ⟨#[104, 97, 108, 116]⟩, .int .i64 0, .int .i64 0, .int .i64 0] := by kernel_rfl
theorem ops_of_one {W : World} (h : laidMetH Tryd.prog [("donjon/isa.ops", Rows.laid_donjon_isa_ops)] W) : Ops W := by
  obtain ⟨t, fr, hh⟩ := laid_cells (rest := []) gOps gOpsType scOps h
  exact ⟨t, fr, by rw [hh, flatOps]⟩

section
variable {H : Type} {enc : TypeId × Value → H} {w : World} {base : Nat} {sp : Nat → Bool} {held : Bool}
set_option maxRecDepth 100000 in
theorem trod_slIns {fuel : Nat} {cs : List Value} {x : DataW H × List MemPlace} (h : DataW.trod enc Tryd.prog w base sp held fuel 22 cs = some x) :
    ∃ (A : Option Addr) (cap : Nat) (l : List Ins), cs = [.slice A l.length cap] ∧ SlN w A l ∧ (A = none → l.length = 0 ∧ cap = 0) ∧ l.length ≤ maxLen := by
  obtain ⟨A, cap, l, hcs, hlc, hcm, hn, hr⟩ := open_list (d := 5) Ins.none (fun (o : Ins) es => es = [.int .i64 o.op, .int .i64 o.a, .int .i64 o.b, .int .i64 o.c]) Tryd.underlying22 (ts := [3, 3, 3, 3]) (by kernel_rfl) (by kernel_rfl) (by decide) (fun es hl => by
    obtain ⟨k, h0, _⟩ := hl.int (i := 0) rfl Tryd.underlying3
    obtain ⟨g, h1, _⟩ := hl.int (i := 1) rfl Tryd.underlying3
    obtain ⟨x, h2, _⟩ := hl.int (i := 2) rfl Tryd.underlying3
    obtain ⟨y, h3, _⟩ := hl.int (i := 3) rfl Tryd.underlying3
    have hlen := hl.1
    match es, hlen with
    | [e0, e1, e2, e3], _ =>
      simp at h0 h1 h2 h3
      exact ⟨⟨k, g, x, y⟩, by simp [h0, h1, h2, h3]⟩) h
  refine ⟨A, cap, l, hcs, fun h0 => ?_, fun e => ⟨by have := hn e; omega, hn e⟩, Nat.le_trans hlc hcm⟩
  obtain ⟨b, off, hA, hb, hi⟩ := hr h0
  refine ⟨b, off, hA, hb, fun i hil => ?_⟩
  obtain ⟨es, rfl, hl, hc⟩ := hi i hil
  exact ⟨hc 0 (by decide), hc 1 (by decide), hc 2 (by decide), hc 3 (by decide)⟩
set_option maxRecDepth 100000 in
theorem open_slIns {r : Reach} {b0 : Nat} {v : Value} {x : DataW H} {p : List MemPlace}
    (hv : Value.okWide Tryd.prog w r b0 22 v) (h : DataW.Trod enc Tryd.prog w base sp held 22 v x p) :
    ∃ (A : Option Addr) (cap : Nat) (l : List Ins), v = .slice A l.length cap ∧ SlN w A l ∧ (A = none → l.length = 0 ∧ cap = 0) := by
  obtain ⟨a0, len0, cap0, rfl⟩ := okWide_slice Tryd.underlying22 hv
  obtain ⟨fuel, hf⟩ := h
  have hf' : DataW.trod enc Tryd.prog w base sp held fuel 22 [.slice a0 len0 cap0] = some (x, p) := hf
  obtain ⟨A, cap, l, hcs, h1, h2, _⟩ := trod_slIns hf'
  simp only [List.cons.injEq, and_true] at hcs
  exact ⟨A, cap, l, hcs, h1, h2⟩
end

end Go.Proofs.YtkobeajbiendlaaDoor
namespace Go.Proofs.YtkobeajbiendlaaDoor
open Go.ChangeShapes Go.WideShapes Go.ChangeAt Go.RowKit Go.Deep
set_option maxRecDepth 100000

section
variable {H : Type} {enc : TypeId × Value → H} {w : World} {base : Nat} {sp : Nat → Bool} {held : Bool}
theorem cfgLeafs : leafT Tryd.prog 5 65 = some [3, 3, 3, 3, 3, 3, 3] := by kernel_rfl
theorem open_cfg {r : Reach} {b0 : Nat} {v : Value} {x : DataW H} {p : List MemPlace}
    (hv : Value.okWide Tryd.prog w r b0 65 v) (h : DataW.Trod enc Tryd.prog w base sp held 65 v x p) : ∃ c : Cfg, v = .agg #[.int .i64 c.co, .int .i64 c.gr, .int .i64 c.se, .int .i64 c.wa, .int .i64 c.de, .int .i64 c.en, .int .i64 c.ba] := by
  obtain ⟨cs, rfl, hl⟩ := open_leafs cfgLeafs ⟨_, Tryd.underlying65, trivial⟩ hv h
  obtain ⟨l⟩ := cs
  obtain ⟨a0, h0, _⟩ := hl.int (i := 0) rfl Tryd.underlying3
  obtain ⟨a1, h1, _⟩ := hl.int (i := 1) rfl Tryd.underlying3
  obtain ⟨a2, h2, _⟩ := hl.int (i := 2) rfl Tryd.underlying3
  obtain ⟨a3, h3, _⟩ := hl.int (i := 3) rfl Tryd.underlying3
  obtain ⟨a4, h4, _⟩ := hl.int (i := 4) rfl Tryd.underlying3
  obtain ⟨a5, h5, _⟩ := hl.int (i := 5) rfl Tryd.underlying3
  obtain ⟨a6, h6, _⟩ := hl.int (i := 6) rfl Tryd.underlying3
  have hlen := hl.1
  match l, hlen with
  | [c0, c1, c2, c3, c4, c5, c6], _ =>
    simp at h0 h1 h2 h3 h4 h5 h6
    exact ⟨⟨a0, a1, a2, a3, a4, a5, a6⟩, by simp [h0, h1, h2, h3, h4, h5, h6]⟩
end

theorem gLim : Tryd.prog.globalNamed "donjon/place.limits" = some 1 := by kernel_rfl
theorem gLimType : (Tryd.prog.globals[(1 : Nat)]?).map (·.type) = some 142 := by kernel_rfl
theorem cellsLim : Tryd.prog.cellsOf 142 = 7 := by kernel_rfl
theorem cellsInt : Tryd.prog.cellsOf 3 = 1 := by kernel_rfl
theorem lims_of_tab {W : World} (h : Lib.TabIs Tryd.prog W "donjon/place.limits" .i64 [4, 16, 8, 4, 16, 8, 4]) : Lims W := by
  unfold Lib.TabIs World.var? at h
  rw [gLim] at h
  simp only [Option.bind_some] at h
  split at h
  · rename_i cs t fr hg
    cases h
    exact ⟨t, fr, hg⟩
  · cases h
theorem lims_of_one {W : World} (h : laidMetH Tryd.prog [("donjon/place.limits", Rows.laid_donjon_place_limits)] W) : Lims W := 
  lims_of_tab (Lib.tabIs_of_head (rest := []) gLim gLimType Tryd.underlying142 Tryd.underlying3 cellsInt cellsLim h)

end Go.Proofs.YtkobeajbiendlaaDoor
namespace Go.Proofs.YtkobeajbiendlaaDoor
open Go.ChangeShapes Go.WideShapes Go.ChangeAt Go.RowKit Go.Deep

theorem laid_cells2 {P : Program} {W : World} {name : String} {d : DataW Unit} {x : String × DataW Unit} {rest : List (String × DataW Unit)} {g : Nat} {t : TypeId} {k : Nat}
    (hg : P.globalNamed name = some g) (hty : (P.globals[g]?).map (·.type) = some t) (hsc : scalarT P k t = true)
    (h : laidMet P (x :: (name, d) :: rest) W) : ∃ ty fr, W.heap[g]? = some (.cells (flatV k d).toArray ty fr) := by
  obtain ⟨ps, ⟨_, _, _, _, _, _, _, _, _, _, ⟨g', t', cs, fuel, p, q, hg', ht', hvar, hd, _, _⟩, _⟩, _⟩ := h
  obtain rfl := Option.some.inj (hg.symm.trans hg')
  obtain rfl := Option.some.inj (hty.symm.trans ht')
  have hcs := flat_of_trod k fuel t _ _ _ hsc hd
  unfold World.var? at hvar
  rw [hg] at hvar
  simp only [Option.bind_some] at hvar
  split at hvar
  · rename_i cs' ty fr hh
    cases hvar
    exact ⟨ty, fr, by rw [hh, ← hcs]⟩
  · cases hvar
theorem scLim : scalarT Tryd.prog 5 142 = true := by kernel_rfl
theorem flatLim : (flatV 5 (Rows.laid_donjon_place_limits : DataW Unit)).toArray = #[.int .i64 4, .int .i64 16, .int .i64 8, .int .i64 4, .int .i64 16, .int .i64 8, .int .i64 4] := by kernel_rfl
theorem lims_of_two {W : World} (h : laidMetH Tryd.prog [("donjon/place.limits", Rows.laid_donjon_place_limits), ("donjon/isa.ops", Rows.laid_donjon_isa_ops)] W) : Lims W := by
  obtain ⟨t, fr, hh⟩ := laid_cells (rest := [("donjon/isa.ops", Rows.laid_donjon_isa_ops)]) gLim gLimType scLim h
  exact ⟨t, fr, by rw [hh, flatLim]⟩
theorem ops_of_two {W : World} (h : laidMetH Tryd.prog [("donjon/place.limits", Rows.laid_donjon_place_limits), ("donjon/isa.ops", Rows.laid_donjon_isa_ops)] W) : Ops W := by
  obtain ⟨t, fr, hh⟩ := laid_cells2 (rest := []) gOps gOpsType scOps h
  exact ⟨t, fr, by rw [hh, flatOps]⟩
section
variable {H : Type} {enc : TypeId × Value → H} {w : World} {base : Nat} {sp : Nat → Bool} {held : Bool}
set_option maxRecDepth 100000 in
theorem open_turn {r : Reach} {b0 : Nat} {v : Value} {x : DataW H} {p : List MemPlace}
    (hv : Value.okWide Tryd.prog w r b0 81 v) (h : DataW.Trod enc Tryd.prog w base sp held 81 v x p) : ∃ (i : Int) (b : Bool), v = .agg #[.int .i64 i, .bool b] := by
  obtain ⟨cs, rfl, hl⟩ := open_leafs (d := 5) (ts := [3, 4]) (by kernel_rfl) ⟨_, Tryd.underlying81, trivial⟩ hv h
  obtain ⟨l⟩ := cs
  obtain ⟨i, h0, _⟩ := hl.int (i := 0) rfl Tryd.underlying3
  obtain ⟨b, h1⟩ := hl.bool (i := 1) rfl Tryd.underlying4
  have hlen := hl.1
  match l, hlen with
  | [c0, c1], _ =>
    simp at h0 h1
    exact ⟨i, b, by simp [h0, h1]⟩
end
end Go.Proofs.YtkobeajbiendlaaDoor
