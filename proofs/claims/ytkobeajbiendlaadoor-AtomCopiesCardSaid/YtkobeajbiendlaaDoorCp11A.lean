/- What this text holds: a world that is being copied; the copy as what a machine is made of. No condition. -/
import Derived.Test.YtkobeajbiendlaaDoorFw11B
import Derived.Test.YtkobeajbiendlaaDoorAtmU
import Derived.Test.YtkobeajbiendlaaDoorRef10B
import Derived.Test.YtkobeajbiendlaaDoorLw11
namespace Go.Proofs.YtkobeajbiendlaaDoor
open Go.RowKit

/-- The value of a copied program. -/
def qV (Q : Nat → Option Addr × Nat) (l : List Pr) (i : Nat) : Value := .slice (Q i).1 (atR l i).ps.length (Q i).2
/-- How far the copy has come: k programs; its other lists. -/
structure Cw (w wr : World) (cb k : Nat) (c : Cfg) (A B C D : Option Addr) (l : List Pr) (ws os ds : List Int) (c1 c2 c3 c4 : Nat) (A2 : Option Addr) (c5 : Nat) (Q : Nat → Option Addr × Nat) (s2 s3 s4 : Value) (x2 x3 x4 : List Int) : Prop where
  wb : Wb w wr w.heap.size c A B C D l ws os ds c1 c2 c3 c4
  box : wr.heap[cb]? = some (.cells #[.int .i64 c.co, .int .i64 c.gr, .int .i64 c.se, .int .i64 c.wa, .int .i64 c.de, .int .i64 c.en, .int .i64 c.ba, .slice A2 k c5, s2, s3, s4] 69 (0, 0))
  row : wr.ownsRow (cb + 1) 22 1 (.slice A2 k c5) k (tab k (qV Q l))
  pg : ∀ i, i < k → wr.ownsRow (cb + 1) 36 4 (qV Q l i) (atR l i).ps.length (flatI (atR l i).ps) ∧ ∀ b, (qV Q l i).ownBlock = some b → (Value.slice A2 k c5).ownBlock ≠ some b
  r2 : wr.ownsRow (cb + 1) 3 1 s2 x2.length (x2.map (Value.int .i64))
  r3 : wr.ownsRow (cb + 1) 3 1 s3 x3.length (x3.map (Value.int .i64))
  r4 : wr.ownsRow (cb + 1) 3 1 s4 x4.length (x4.map (Value.int .i64))
  ne : ∀ b, s2.ownBlock = some b → (Value.slice A2 k c5).ownBlock ≠ some b
  hc : w.heap.size < cb
theorem row_some11 {W : World} {base e size n c : Nat} {A : Option Addr} {xs : List Value} (h : W.ownsRow base e size (.slice A n c) n xs) (hn : 0 < n) : ∃ b, A = some ⟨b, 0, none⟩ := by
  rcases h.2 with ⟨_, h0⟩ | ⟨g, cap, cur, hv, _⟩
  · omega
  · exact ⟨g, (Value.slice.inj hv).1⟩
theorem tab_snoc (k : Nat) (h : Nat → Value) : tab (k + 1) h = tab k h ++ [h k] := by simp [tab, List.range_succ]
section
variable {w wr w2 w3 w4 : World} {cb k : Nat} {c : Cfg} {A B C D : Option Addr} {l : List Pr} {ws os ds : List Int} {c1 c2 c3 c4 : Nat} {A2 A4 : Option Addr} {c5 c6 : Nat} {Q : Nat → Option Addr × Nat} {s2 s3 s4 v : Value} {x2 x3 x4 : List Int}
theorem Cw.ext (h : Cw w wr cb k c A B C D l ws os ds c1 c2 c3 c4 A2 c5 Q s2 s3 s4 x2 x3 x4) (hb : Below wr.heap.size wr w2) : Cw w w2 cb k c A B C D l ws os ds c1 c2 c3 c4 A2 c5 Q s2 s3 s4 x2 x3 x4 := by
  have rk : ∀ {t : TypeId} {n m : Nat} {v : Value} {xs : List Value}, wr.ownsRow (cb + 1) t m v n xs → w2.ownsRow (cb + 1) t m v n xs := fun hr => row_keep hr (fun g hg => hb.block g (hr.lt g hg).2)
  exact ⟨h.wb.ext hb, (hb.block _ (lt_of h.box)).trans h.box, rk h.row, fun i hi => ⟨rk (h.pg i hi).1, (h.pg i hi).2⟩, rk h.r2, rk h.r3, rk h.r4, h.ne, h.hc⟩
/-- A store to the copy's box keeps the rows. -/
theorem Cw.rows (h : Cw w wr cb k c A B C D l ws os ds c1 c2 c3 c4 A2 c5 Q s2 s3 s4 x2 x3 x4) (j : Nat) (v : Value) : (∀ {t : TypeId} {n m : Nat} {u : Value} {xs : List Value}, wr.ownsRow (cb + 1) t m u n xs → (wr.setCell ⟨cb, j, none⟩ v).ownsRow (cb + 1) t m u n xs) ∧ Wb w (wr.setCell ⟨cb, j, none⟩ v) w.heap.size c A B C D l ws os ds c1 c2 c3 c4 := by
  have hc := h.hc
  refine ⟨fun hr => row_keep hr (fun g hg => Below.heap_setCell _ _ _ _ (by have := own_ge hr hg; simp; omega)), ⟨h.wb.be.setCell (p := ⟨cb, j, none⟩) (by simp; omega) _, (Below.heap_setCell _ _ _ _ (by simp; omega)).trans h.wb.box⟩⟩
theorem Cw.set2 (h : Cw w wr cb k c A B C D l ws os ds c1 c2 c3 c4 A2 c5 Q s2 s3 s4 x2 x3 x4) {x : List Int} (ho : wr.ownsRow (cb + 1) 3 1 v x.length (x.map (Value.int .i64))) (hn : ∀ b, v.ownBlock = some b → (Value.slice A2 k c5).ownBlock ≠ some b) : Cw w (wr.setCell ⟨cb, 8, none⟩ v) cb k c A B C D l ws os ds c1 c2 c3 c4 A2 c5 Q v s3 s4 x x3 x4 := by
  obtain ⟨rk, hwb⟩ := h.rows 8 v
  exact ⟨hwb, by simpa using Joins.block_setCell (i := 8) h.box v, rk h.row, fun i hi => ⟨rk (h.pg i hi).1, (h.pg i hi).2⟩, rk ho, rk h.r3, rk h.r4, hn, h.hc⟩
theorem Cw.set3 (h : Cw w wr cb k c A B C D l ws os ds c1 c2 c3 c4 A2 c5 Q s2 s3 s4 x2 x3 x4) {x : List Int} (ho : wr.ownsRow (cb + 1) 3 1 v x.length (x.map (Value.int .i64))) : Cw w (wr.setCell ⟨cb, 9, none⟩ v) cb k c A B C D l ws os ds c1 c2 c3 c4 A2 c5 Q s2 v s4 x2 x x4 := by
  obtain ⟨rk, hwb⟩ := h.rows 9 v
  exact ⟨hwb, by simpa using Joins.block_setCell (i := 9) h.box v, rk h.row, fun i hi => ⟨rk (h.pg i hi).1, (h.pg i hi).2⟩, rk h.r2, rk ho, rk h.r4, h.ne, h.hc⟩
theorem Cw.set4 (h : Cw w wr cb k c A B C D l ws os ds c1 c2 c3 c4 A2 c5 Q s2 s3 s4 x2 x3 x4) {x : List Int} (ho : wr.ownsRow (cb + 1) 3 1 v x.length (x.map (Value.int .i64))) : Cw w (wr.setCell ⟨cb, 10, none⟩ v) cb k c A B C D l ws os ds c1 c2 c3 c4 A2 c5 Q s2 s3 v x2 x3 x := by
  obtain ⟨rk, hwb⟩ := h.rows 10 v
  exact ⟨hwb, by simpa using Joins.block_setCell (i := 10) h.box v, rk h.row, fun i hi => ⟨rk (h.pg i hi).1, (h.pg i hi).2⟩, rk h.r2, rk h.r3, rk ho, h.ne, h.hc⟩
/-- A program more. -/
theorem Cw.next (h : Cw w wr cb k c A B C D l ws os ds c1 c2 c3 c4 A2 c5 Q (.slice none 0 0) s3 s4 [] x3 x4) {A3 : Option Addr} {c7 : Nat} (hb : Below wr.heap.size wr w2) (hv : w2.ownsRow (cb + 1) 36 4 (.slice A3 (atR l k).ps.length c7) (atR l k).ps.length (flatI (atR l k).ps)) (hvb : ∀ b, (Value.slice A3 (atR l k).ps.length c7).ownBlock = some b → wr.heap.size ≤ b) (hb3 : Below w2.heap.size w2 w3)
    (ho : w4.ownsRow (cb + 1) 22 1 (.slice A4 (k + 1) c6) (k + 1) (tab k (qV Q l) ++ [.slice A3 (atR l k).ps.length c7])) (hg : w3.grownBy w4 (Value.slice A2 k c5).ownBlock)
    (hf : ∀ g, (Value.slice A4 (k + 1) c6).ownBlock = some g → (Value.slice A2 k c5).ownBlock = some g ∨ w3.heap.size ≤ g) (h34 : s3 = .slice none 0 0 ∧ s4 = .slice none 0 0 ∧ x3 = [] ∧ x4 = []) :
    Cw w (w4.setCell ⟨cb, 7, none⟩ (.slice A4 (k + 1) c6)) cb (k + 1) c A B C D l ws os ds c1 c2 c3 c4 A4 c6 (updN Q k (A3, c7)) (.slice none 0 0) s3 s4 [] x3 x4 := by
  have hc := h.hc
  have hcl := lt_of h.box
  have hbl := lt_of h.wb.box
  have hs := hb.size
  have hs3 := hb3.size
  have hs4 := hg.size
  have hold : ∀ g, (Value.slice A2 k c5).ownBlock = some g → cb + 1 ≤ g ∧ g < wr.heap.size := fun g e => ⟨own_ge h.row e, (h.row.lt g e).2⟩
  have hB3 : Below wr.heap.size wr w3 := ext_trans hb hb3
  have keep : ∀ b, b < wr.heap.size → (Value.slice A2 k c5).ownBlock ≠ some b → w4.heap[b]? = wr.heap[b]? := fun b h1 h2 => (hg.block b (by omega) (fun e => h2 e.symm)).trans (hB3.block b h1)
  have keep2 : ∀ b, wr.heap.size ≤ b → b < w2.heap.size → w4.heap[b]? = w2.heap[b]? := fun b h1 h2 => (hg.block b (by omega) (fun e => by have := hold b e.symm; omega)).trans (hb3.block b h2)
  have oth : ∀ b, b ≠ cb → (w4.setCell ⟨cb, 7, none⟩ (.slice A4 (k + 1) c6)).heap[b]? = w4.heap[b]? := fun b hb => Below.heap_setCell _ _ _ _ hb
  have hqo : (Value.slice A2 k c5).ownBlock ≠ some cb := fun e => by have := hold cb e; omega
  have hwo : (Value.slice A2 k c5).ownBlock ≠ some w.heap.size := fun e => by have := hold _ e; omega
  have eq : ∀ i, i ≠ k → qV (updN Q k (A3, c7)) l i = qV Q l i := fun i hi => by unfold qV; rw [updN_ne _ _ hi]
  have eqk : qV (updN Q k (A3, c7)) l k = .slice A3 (atR l k).ps.length c7 := by unfold qV; rw [updN_same]
  have et : tab (k + 1) (qV (updN Q k (A3, c7)) l) = tab k (qV Q l) ++ [.slice A3 (atR l k).ps.length c7] := by
    rw [tab_snoc, eqk, tab_ext (fun i hi => eq i (by omega))]
  obtain ⟨rfl, rfl, rfl, rfl⟩ := h34
  refine ⟨⟨?_, ?_⟩, ?_, ?_, ?_, World.ownsRow_nil _ _ _ _, World.ownsRow_nil _ _ _ _, World.ownsRow_nil _ _ _ _, fun b e => (by cases e), hc⟩
  · exact ((ext_trans h.wb.be hB3).grown hg (ext_trans h.wb.be hB3).size (fun g e => by have := hold g e; omega)).setCell (p := ⟨cb, 7, none⟩) (by simp; omega) _
  · exact (oth _ (by omega)).trans ((keep _ hbl hwo).trans h.wb.box)
  · have := Joins.block_setCell (i := 7) ((keep cb hcl hqo).trans h.box) (.slice A4 (k + 1) c6)
    simpa using this
  · rw [et]
    exact row_keep ho (fun g e => oth g (by have := own_ge ho e; omega))
  · intro i hi
    by_cases hik : i = k
    · subst hik
      rw [eqk]
      refine ⟨row_keep hv (fun g e => ?_), fun b e e2 => ?_⟩
      · have h1 := hvb g e
        have h2 := (hv.lt g e).2
        exact (oth g (by omega)).trans (keep2 g h1 h2)
      · have h1 := hvb b e
        have h2 := (hv.lt b e).2
        rcases hf b e2 with h3 | h3
        · have := hold b h3; omega
        · omega
    · rw [eq i hik]
      obtain ⟨p1, p2⟩ := h.pg i (by omega)
      refine ⟨row_keep p1 (fun g e => ?_), fun b e e2 => ?_⟩
      · have h1 := own_ge p1 e
        exact (oth g (by omega)).trans (keep g (p1.lt g e).2 (p2 g e))
      · have h1 := (p1.lt b e).2
        rcases hf b e2 with h3 | h3
        · exact p2 b e h3
        · omega
/-- The programs of the copy. -/
def prs (Q : Nat → Option Addr × Nat) (l : List Pr) : List Pr := (List.range l.length).map fun i => ⟨(Q i).1, (Q i).2, (atR l i).ps⟩
theorem prs_len (Q : Nat → Option Addr × Nat) (l : List Pr) : (prs Q l).length = l.length := by simp [prs]
theorem prs_at (Q : Nat → Option Addr × Nat) (l : List Pr) {i : Nat} (hi : i < l.length) : atR (prs Q l) i = ⟨(Q i).1, (Q i).2, (atR l i).ps⟩ := by simp [prs, atR, hi]
theorem badP_ps : ∀ (a b : List Pr), a.map Pr.ps = b.map Pr.ps → badP a = badP b
  | [], [], _ => rfl
  | [], _ :: _, h => by simp at h
  | _ :: _, [], h => by simp at h
  | x :: a, y :: b, h => by
    simp only [List.map_cons, List.cons.injEq] at h
    unfold badP
    rw [h.1, badP_ps a b h.2]
theorem prs_ps (Q : Nat → Option Addr × Nat) (l : List Pr) : (prs Q l).map Pr.ps = l.map Pr.ps := by
  apply List.ext_getElem?
  intro i
  by_cases hi : i < l.length
  · simp [prs, atR, hi]
  · rw [List.getElem?_eq_none (by simpa [prs] using hi), List.getElem?_eq_none (by simpa using hi)]
theorem newE11_prs (Q : Nat → Option Addr × Nat) (l : List Pr) (c : Cfg) (ws os ds : List Int) : newE11 c (prs Q l) ws os ds = newE11 c l ws os ds := by
  unfold newE11
  rw [prs_len, badP_ps _ _ (prs_ps Q l)]
theorem maNew_prs (Q : Nat → Option Addr × Nat) (l : List Pr) (c : Cfg) (ws os ds : List Int) : maNew c (prs Q l) ws os ds (prs Q l).length = maNew c l ws os ds l.length := by
  unfold maNew
  rw [prs_len]
  congr 1
  funext i
  unfold seNew
  by_cases hi : i < l.length
  · rw [if_pos hi, if_pos hi]
    unfold seOne
    rw [prs_at Q l hi]
  · rw [if_neg hi, if_neg hi]
theorem Cw.slr (h : Cw w wr cb l.length c A B C D l ws os ds c1 c2 c3 c4 A2 c5 Q s2 s3 s4 x2 x3 x4) : SlR wr A2 (prs Q l) := by
  refine ⟨fun h0 => ?_, fun i hi => ?_⟩
  · rw [prs_len] at h0
    obtain ⟨b, rfl⟩ := row_some11 h.row h0
    refine ⟨b, 0, rfl, (h.row.lt b rfl).2, fun i hi => ?_⟩
    rw [prs_len] at hi
    rw [prs_at Q l hi, Nat.zero_add]
    exact own_cell h.row (tab_at _ hi)
  · rw [prs_len] at hi
    rw [prs_at Q l hi]
    have hp := (h.pg i hi).1
    refine ⟨row_slI10 hp, fun e => ?_⟩
    obtain ⟨A', c', e1, e2⟩ := row_form hp
    obtain ⟨h1, _, h3⟩ := Value.slice.inj e1
    have := e2 (h1.symm.trans e)
    exact ⟨this.1, h3.trans this.2⟩
end
theorem row_sli {w : World} {base : Nat} {A : Option Addr} {n c : Nat} {xs : List Int} (h : w.ownsRow base 3 1 (.slice A n c) xs.length (xs.map (Value.int .i64))) : SlI w A xs := fun h0 => by
  obtain ⟨b, rfl⟩ : ∃ b, A = some ⟨b, 0, none⟩ := by
    rcases h.2 with ⟨_, h0'⟩ | ⟨g, cap, cur, hv, _⟩
    · omega
    · exact ⟨g, (Value.slice.inj hv).1⟩
  refine ⟨b, 0, rfl, (h.lt b rfl).2, fun i hi => ?_⟩
  have hn : n = xs.length := by
    rcases h.2 with ⟨hv, _⟩ | ⟨g, cap, cur, hv, _⟩
    · cases hv
    · exact (Value.slice.inj hv).2.1
  subst hn
  rw [Nat.zero_add]
  refine own_cell h ?_
  rw [List.getElem?_map, List.getElem?_eq_getElem hi]
  rfl

end Go.Proofs.YtkobeajbiendlaaDoor
