/- What this text holds: rows of the call's own that are cut short or cleared in place. No condition. -/
import Derived.Test.YtjggnhcdnfmmeaaApp
import Derived.Lib.SliceRun
import Derived.Lib.SmallJoins
namespace Go.Proofs.Ytjggnhcdnfmmeaa
open Go.RowKit

/-- A row's form. -/
theorem row_open {w : World} {base : Nat} {e : TypeId} {size n cap : Nat} {a : Addr} {xs : List Value} (h : w.ownsRow base e size (.slice (some a) n cap) n xs) :
    ∃ g cur, a = ⟨g, 0, none⟩ ∧ base ≤ g ∧ w.heap[g]? = some (.cells cur e (0, 0)) ∧ n ≤ cap ∧ cap ≤ maxLen ∧ cur.size = cap * size ∧ cur.toList.take (n * size) = xs := by
  rcases h.2 with ⟨hv, _⟩ | ⟨g, cap', cur, hv, hb, hg, h1, h2, h3, h4⟩
  · cases (Value.slice.inj hv).1
  · obtain ⟨h5, _, rfl⟩ := Value.slice.inj hv
    exact ⟨g, cur, Option.some.inj h5, hb, hg, h1, h2, h3, h4⟩
/-- A row in its block, with another content and another length. -/
theorem row_make {w : World} {base : Nat} {e : TypeId} {size m cap g : Nat} {cur : Array Value} {ys : List Value} (hb : base ≤ g) (hg : w.heap[g]? = some (.cells cur e (0, 0))) (h1 : m ≤ cap) (h2 : cap ≤ maxLen) (h3 : cur.size = cap * size) (hl : ys.length = m * size) (h4 : ∀ q, q < m * size → cur[q]? = ys[q]?) :
    w.ownsRow base e size (.slice (some ⟨g, 0, none⟩) m cap) m ys := by
  refine ⟨hl, .inr ⟨g, cap, cur, rfl, hb, hg, h1, h2, h3, ?_⟩⟩
  apply List.ext_getElem?
  intro q
  rw [List.getElem?_take]
  split
  · rename_i hq
    rw [Array.getElem?_toList]
    exact h4 q hq
  · rename_i hq
    rw [List.getElem?_eq_none (by omega)]
theorem row_cut {w : World} {base : Nat} {e : TypeId} {size n cap m : Nat} {a : Addr} {xs : List Value} (h : w.ownsRow base e size (.slice (some a) n cap) n xs) (hm : m ≤ n) : w.ownsRow base e size (.slice (some a) m cap) m (xs.take (m * size)) := by
  obtain ⟨g, cur, rfl, hb, hg, h1, h2, h3, h4⟩ := row_open h
  have hle : m * size ≤ n * size := Nat.mul_le_mul_right _ hm
  refine row_make hb hg (by omega) h2 h3 (by rw [List.length_take, h.1]; omega) (fun q hq => ?_)
  rw [List.getElem?_take, if_pos hq, ← h4, List.getElem?_take, if_pos (by omega), Array.getElem?_toList]

theorem setCells_size (b : Nat) : ∀ (vs : List Value) (o : Nat) (w : World), (w.setCells b o vs).heap.size = w.heap.size
  | [], _, _ => rfl
  | v :: r, o, w => by
    unfold World.setCells
    rw [setCells_size b r]
    simp
theorem setCells_other (b : Nat) : ∀ (vs : List Value) (o : Nat) (w : World) (k : Nat), k ≠ b → (w.setCells b o vs).heap[k]? = w.heap[k]?
  | [], _, _, _, _ => rfl
  | v :: r, o, w, k, h => by
    unfold World.setCells
    rw [setCells_other b r _ _ k h]
    exact Below.heap_setCell _ _ _ _ h
theorem setCells_same (b : Nat) : ∀ (vs : List Value) (o : Nat) (w : World), (w.setCells b o vs).os = w.os ∧ (w.setCells b o vs).tape = w.tape ∧ (w.setCells b o vs).output = w.output
  | [], _, _ => ⟨rfl, rfl, rfl⟩
  | v :: r, o, w => by
    unfold World.setCells
    exact setCells_same b r (o + 1) (w.setCell ⟨b, o, none⟩ v)
theorem setCells_block (b : Nat) (t : TypeId) (fr : Nat × Nat) : ∀ (vs : List Value) (o : Nat) (w : World) (cur : Array Value), w.heap[b]? = some (.cells cur t fr) →
    ∃ cur', (w.setCells b o vs).heap[b]? = some (.cells cur' t fr) ∧ cur'.size = cur.size ∧ (∀ q, q < o → cur'[q]? = cur[q]?)
  | [], _, _, cur, h => ⟨cur, h, rfl, fun _ _ => rfl⟩
  | v :: r, o, w, cur, h => by
    unfold World.setCells
    obtain ⟨cur', h1, h2, h3⟩ := setCells_block b t fr r (o + 1) (w.setCell ⟨b, o, none⟩ v) _ (Joins.block_setCell (i := o) h v)
    refine ⟨cur', h1, by rw [h2]; simp, fun q hq => ?_⟩
    rw [h3 q (by omega)]
    simp [Nat.ne_of_gt hq]

theorem zeroCells_len (z : Array Value) (n : Nat) : (Builtin.zeroCells z n).toList.length = n * z.size := by simp [Builtin.zeroCells]
theorem zeroCells_one (z : Array Value) (n : Nat) (h1 : ∀ u ∈ z, u.oneCell' = true) (hz : 0 < z.size) : ∀ u ∈ (Builtin.zeroCells z n).toList, u.oneCell' = true := by
  intro u hu
  simp only [Builtin.zeroCells, Array.toList_map, List.mem_map] at hu
  obtain ⟨i, _, rfl⟩ := hu
  have hlt : i % z.size < z.size := Nat.mod_lt _ hz
  rw [getElem!_pos z (i % z.size) hlt]
  exact h1 _ (Array.getElem_mem hlt)
/-- 'clear' of a slice, whatever its elements' size. -/
theorem run_clear_rows {P : Program} (w : World) (t e ty : TypeId) (z : Value) (ht : P.underlying t = some (.slice e)) (hv : ∀ w, (zeroValue e).run P w = .ok z w) (hz : 0 < z.cells.size) (h1 : ∀ u ∈ z.cells, u.oneCell' = true) (b o n c : Nat) (hn : 0 < n)
    (hc : ∀ j, j < n * z.cells.size → (w.cell? ⟨b, o + j, none⟩).isSome = true) (hf : ∀ j, j < n * z.cells.size → w.frozen? ⟨b, o + j, none⟩ = false) :
    (Builtin.clear_ #[t] ty #[.slice (some ⟨b, o, none⟩) n c]).run P w = .ok (.tuple #[]) (w.setCells b o (Builtin.zeroCells z.cells n).toList) := by
  have hst := run_storeCells_cells (P := P) b o (Builtin.zeroCells z.cells n).toList 0 w (fun j hj => by rw [zeroCells_len] at hj; simpa using hc j hj) (fun j hj => by rw [zeroCells_len] at hj; simpa using hf j hj) (zeroCells_one _ _ h1 hz)
  simp only [Nat.add_zero] at hst
  obtain ⟨m, rfl⟩ : ∃ m, n = m + 1 := ⟨n - 1, by omega⟩
  simp [Builtin.clear_, run_underlying ht, hv, hst]
/-- 'clear' of an empty slice. -/
theorem run_clear_none {P : Program} (w : World) (t e ty : TypeId) (A : Option Addr) (c : Nat) (ht : P.underlying t = some (.slice e)) : (Builtin.clear_ #[t] ty #[.slice A 0 c]).run P w = .ok (.tuple #[]) w := by
  cases A <;> simp [Builtin.clear_, run_underlying ht]

/-- An append that fits, as a step of a region that draws its order. -/
theorem step_append_fits {P : Program} (w : World) {ops : Array Oper} {o : Oper} {a : Act} {K : Act → World → Prop} {Q : Exit → Act → World → Prop} {E : Prop} (hgd : o.guard = none) (s x : Operand) (t : TypeId)
    (ho : o.op = .call { callee := .builtin .append, args := #[s, x], argTypes := #[t, t] })
    (base : Nat) (e : TypeId) (i : TypeInfo) (size : Nat) (ht : P.underlying t = some (.slice e)) (hi : P.info? e = some i) (hsize : i.size = size)
    (g k cap : Nat) (xs : List Value) (hs : a.eval s = .slice (some ⟨g, 0, none⟩) k cap) (hown : w.ownsRow base e size (.slice (some ⟨g, 0, none⟩) k cap) k xs)
    (ad : Addr) (m c : Nat) (news : List Value) (hx : a.eval x = .slice (some ad) m c) (hn : news.length = m * size) (hc : ∀ j u, news[j]? = some u → w.cell? (ad.add j) = some u) (h1 : ∀ u ∈ news, u.oneCell' = true) (b1 : k + m ≤ cap)
    (h : ∀ w', w'.ownsRow base e size (.slice (some ⟨g, 0, none⟩) (k + m) cap) (k + m) (xs ++ news) → w.grownBy w' (some g) → K (a.put o.dst (.slice (some ⟨g, 0, none⟩) (k + m) cap)) w') :
    if Region.wanted o (yielded ops a.tmps) = true then Oper.wp P o a w K Q else E := by
  have hw : Region.wanted o (yielded ops a.tmps) = true := by simp [Region.wanted, hgd]
  rw [if_pos hw]
  obtain ⟨w', hrun, r1, r2⟩ := run_append_fits (P := P) w base t o.type e i size ht hi hsize g k cap xs hown ad m c news hn hc h1 b1
  unfold Oper.wp
  simp [execOp, ho, resolve, invoke, builtin, hs, hx, hrun, Result.andThen]
  exact h w' r1 r2
theorem row_at {w : World} {base : Nat} {e : TypeId} {size n cap g : Nat} {xs : List Value} (h : w.ownsRow base e size (.slice (some ⟨g, 0, none⟩) n cap) n xs) : ∀ j u, xs[j]? = some u → w.cell? ⟨g, j, none⟩ = some u := by
  obtain ⟨g', cur, hg', _, hgg, _, _, _, htk⟩ := row_open h
  cases hg'
  intro j u hu
  have hj : j < n * size := by rw [← h.1]; exact (List.getElem?_eq_some_iff.1 hu).1
  rw [← htk, List.getElem?_take, if_pos hj] at hu
  unfold World.cell?
  rw [hgg]
  simpa using hu

end Go.Proofs.Ytjggnhcdnfmmeaa
