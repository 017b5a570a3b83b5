/- What this text holds: rows of ints that may begin within their block: cut at the front, and appended to. No condition. -/
import Derived.Test.YtjggnhcdnfmmeaaDel
import Derived.Test.YtjggnhcdnfmmeaaRnd
import Derived.ArgAppend
namespace Go.Proofs.Ytjggnhcdnfmmeaa
open Go.RowKit

/-- A slice of ints that reads as a list; its block holds its capacity. -/
def Rw (w : World) (v : Value) (xs : List Int) : Prop :=
  (v = .slice none 0 0 ∧ xs = []) ∨ ∃ g off c cur, v = .slice (some ⟨g, off, none⟩) xs.length c ∧ w.heap[g]? = some (.cells cur 3 (0, 0)) ∧ off + c ≤ cur.size ∧ xs.length ≤ c ∧ ∀ (i : Nat) (x : Int), xs[i]? = some x → cur[off + i]? = some (.int .i64 x)
theorem Rw.nil (w : World) : Rw w (.slice none 0 0) [] := .inl ⟨rfl, rfl⟩
theorem Rw.lt {w : World} {v : Value} {xs : List Int} (h : Rw w v xs) : ∀ g, v.ownBlock = some g → g < w.heap.size := fun g hg => by
  rcases h with ⟨rfl, _⟩ | ⟨g', off, c, cur, rfl, hb, _⟩
  · cases hg
  · cases hg
    exact lt_of hb
theorem Rw.keep {w w' : World} {v : Value} {xs : List Int} (h : Rw w v xs) (k : ∀ g, v.ownBlock = some g → w'.heap[g]? = w.heap[g]?) : Rw w' v xs := by
  rcases h with h | ⟨g, off, c, cur, rfl, hb, rest⟩
  · exact .inl h
  · exact .inr ⟨g, off, c, cur, rfl, (k g rfl).trans hb, rest⟩
theorem Rw.ext {w w' : World} {v : Value} {xs : List Int} (h : Rw w v xs) (hb : Below w.heap.size w w') : Rw w' v xs := h.keep (fun g hg => hb.block g (h.lt g hg))
theorem Rw.form {w : World} {v : Value} {xs : List Int} (h : Rw w v xs) : ∃ A c, v = .slice A xs.length c ∧ (A = none → xs.length = 0 ∧ c = 0) ∧ xs.length ≤ c := by
  rcases h with ⟨rfl, rfl⟩ | ⟨g, off, c, cur, rfl, hb, _, hc, _⟩
  · exact ⟨none, 0, rfl, fun _ => ⟨rfl, rfl⟩, Nat.le_refl _⟩
  · exact ⟨_, c, rfl, fun h => (by cases h), hc⟩
theorem Rw.cell {w : World} {A : Option Addr} {n c : Nat} {xs : List Int} (h : Rw w (.slice A n c) xs) (i : Nat) (hi : i < xs.length) : ∃ g off, A = some ⟨g, off, none⟩ ∧ g < w.heap.size ∧ w.cell? ⟨g, off + i, none⟩ = some (.int .i64 xs[i]) := by
  rcases h with ⟨_, rfl⟩ | ⟨g, off, c, cur, hv, hb, _, hc, hx⟩
  · simp at hi
  · cases hv
    refine ⟨g, off, rfl, lt_of hb, ?_⟩
    unfold World.cell?
    rw [hb]
    exact hx i xs[i] (by simp [hi])
/-- Cut at the front. -/
theorem Rw.cut {w : World} {A : Option Addr} {n c : Nat} {x : Int} {xs : List Int} (h : Rw w (.slice A n c) (x :: xs)) : Rw w (sliced A 1 n c 1) xs ∧ n = xs.length + 1 ∧ ∀ g, (sliced A 1 n c 1).ownBlock = some g → (Value.slice A n c).ownBlock = some g := by
  rcases h with ⟨_, h0⟩ | ⟨g, off, c', cur, hv, hb, h1, h2, h3⟩
  · cases h0
  · obtain ⟨rfl, rfl, rfl⟩ := Value.slice.inj hv
    simp at h2
    by_cases hc : c = 1
    · have hx : xs = [] := List.eq_nil_of_length_eq_zero (by omega)
      subst hx
      refine ⟨.inr ⟨g, off, 0, cur, by simp [sliced, hc], hb, by omega, by simp, fun i x hi => by simp at hi⟩, rfl, fun q hq => ?_⟩
      simp [sliced, hc, Value.ownBlock] at hq ⊢
      exact hq
    · refine ⟨.inr ⟨g, off + 1, c - 1, cur, ?_, hb, by omega, by omega, fun i y hi => ?_⟩, rfl, fun q hq => ?_⟩
      · simp [sliced, hc, Addr.add_lit]
      · have := h3 (i + 1) y (by simpa using hi)
        rw [show off + 1 + i = off + (i + 1) by omega]
        exact this
      · simp [sliced, hc, Value.ownBlock, Addr.add_lit] at hq ⊢
        exact hq
theorem rw_of_row {w : World} {base : Nat} {v : Value} {xs : List Int} (h : w.ownsRow base 3 1 v xs.length (xs.map fun x => .int .i64 x)) : Rw w v xs := by
  rcases h.2 with ⟨rfl, h0⟩ | ⟨g, cap, cur, rfl, hb, hg, h1, h2, h3, h4⟩
  · exact .inl ⟨rfl, List.eq_nil_of_length_eq_zero h0⟩
  · refine .inr ⟨g, 0, cap, cur, rfl, hg, by omega, h1, fun i x hi => ?_⟩
    have hlt := (List.getElem?_eq_some_iff.1 hi).1
    have h5 : (xs.map fun x => Value.int .i64 x)[i]? = some (.int .i64 x) := by simp [hi]
    rw [← h4, List.getElem?_take, if_pos (by omega), Array.getElem?_toList] at h5
    rw [Nat.zero_add]
    exact h5

theorem info_i64 : (Try.prog.info? 3).map (fun i => (i.zero, i.size, i.bytes)) = some (some (.int .i64 0), 1, 8) := by kernel_rfl

theorem wp_append_off {w : World} {o : Oper} {a : Act} {K : Act → World → Prop} {Q : Exit → Act → World → Prop} (s x : Operand)
    (ho : o.op = .call { callee := .builtin .append, args := #[s, x], argTypes := #[64, 64] })
    (v : Value) (xs : List Int) (hs : a.eval s = v) (hR : Rw w v xs) (ad : Addr) (c y) (hx : a.eval x = .slice (some ad) 1 c) (hy : w.cell? (ad.add 0) = some (.int .i64 y)) (hlen : xs.length ≤ 1000)
    (h : ∀ v' w', Rw w' v' (xs ++ [y]) → w.grownBy w' v.ownBlock → (∀ g, v'.ownBlock = some g → v.ownBlock = some g ∨ w.heap.size ≤ g) → K (a.put o.dst v') w') : o.wp Try.prog a w K Q := by
  obtain ⟨i0, hi, hz0, hz1, hz2⟩ := info_parts info_i64
  have hnews : ∀ j u, [Value.int .i64 y][j]? = some u → w.cell? (ad.add j) = some u := fun j u hu => by
    have hj : j = 0 := by have := (List.getElem?_eq_some_iff.1 hu).1; simp at this; exact this
    subst hj
    simp at hu
    rw [← hu]
    exact hy
  rcases hR with ⟨rfl, rfl⟩ | ⟨g, off, cc, cur, rfl, hb, h1, h2, h3⟩
  · refine wp_append_own w s x 64 ho w.heap.size 3 i0 (.int .i64 0) 1 8 Try.underlying64 hi hz0 hz1 hz2 rfl (by decide) _ 0 [] hs (World.ownsRow_nil _ _ _ _) ad 1 c [.int .i64 y] hx rfl hnews (by intro u hu; simp at hu; rw [hu]; rfl) (by unfold maxLen; omega) (by omega) (Nat.le_refl _) ?_
    intro v' w' hown hgrow _
    exact h v' w' (rw_of_row (base := w.heap.size) (by simpa using hown)) hgrow (fun q hq => .inr (hown.lt q hq).1)
  · by_cases hroom : xs.length + 1 ≤ cc
    · have hcell : ∀ j, off + j < cur.size → (w.cell? ⟨g, off + j, none⟩).isSome = true := fun j hj => by simp [World.cell?, hb, hj]
      have hrun := run_append_room_cells (P := Try.prog) w 64 o.type 3 i0 Try.underlying64 hi g off xs.length cc ad 1 c [.int .i64 y] (by rw [hz1]; rfl) hnews (by intro u hu; simp at hu; rw [hu]; rfl) hroom
        (fun j hj => by rw [hz1, Nat.mul_one]; simp at hj; subst hj; exact hcell xs.length (by omega)) (fun j _ => by simp [World.frozen?, hb])
      rw [hz1, Nat.mul_one] at hrun
      have e1 : w.setCells g (off + xs.length) [.int .i64 y] = w.setCell ⟨g, off + xs.length, none⟩ (.int .i64 y) := rfl
      rw [e1] at hrun
      have s1 := Joins.block_setCell (i := off + xs.length) hb (.int .i64 y)
      have HR : Rw (w.setCell ⟨g, off + xs.length, none⟩ (.int .i64 y)) (.slice (some ⟨g, off, none⟩) (xs.length + 1) cc) (xs ++ [y]) := by
        refine .inr ⟨g, off, cc, _, by simp, s1, by simpa using h1, by simpa using hroom, fun i x hi => ?_⟩
        by_cases hix : i < xs.length
        · rw [List.getElem?_append_left hix] at hi
          have := h3 i x hi
          rw [← this]
          simp [show ¬ xs.length = i by omega]
        · have hil := (List.getElem?_eq_some_iff.1 hi).1
          simp at hil
          have hie : i = xs.length := by omega
          subst hie
          simp at hi
          have hlt : off + xs.length < cur.size := by omega
          simp [hlt, hi]
      have HG : w.grownBy (w.setCell ⟨g, off + xs.length, none⟩ (.int .i64 y)) (some g) := ⟨rfl, rfl, rfl, by simp, fun k _ hk => Below.heap_setCell _ _ _ _ (fun e => hk (by rw [e]))⟩
      unfold Oper.wp
      simp [execOp, ho, resolve, invoke, builtin, hs, hx, hrun, Result.andThen]
      exact h _ _ HR HG (fun q hq => .inl hq)
    · have holds : ∀ j u, (xs.map fun x => Value.int .i64 x)[j]? = some u → w.cell? ((⟨g, off, none⟩ : Addr).add j) = some u := fun j u hu => by
        rw [Addr.add_lit]
        rw [List.getElem?_map] at hu
        cases hxj : xs[j]? with
        | none => rw [hxj] at hu; cases hu
        | some z =>
          rw [hxj] at hu
          simp at hu
          rw [← hu]
          unfold World.cell?
          rw [hb]
          exact h3 j z hxj
      obtain ⟨v', w', hrun, r1, r2⟩ := run_append_arg_grows (P := Try.prog) w 64 o.type 3 i0 (.int .i64 0) 1 8 Try.underlying64 hi hz0 hz1 hz2 rfl (by decide) ⟨g, off, none⟩ xs.length cc (xs.map fun x => Value.int .i64 x) (by simp) holds ad 1 c [.int .i64 y] rfl hnews (by omega) (by unfold maxLen; omega) (by omega)
      unfold Oper.wp
      simp [execOp, ho, resolve, invoke, builtin, hs, hx, hrun, Result.andThen]
      refine h _ _ (rw_of_row (base := w.heap.size) (by simpa using r1)) ⟨r2.os, r2.tape, r2.output, r2.size, fun k hk _ => r2.block k hk (fun e => by cases e)⟩ (fun q hq => .inr (r1.lt q hq).1)

theorem wpList_append_off {ops : Array Oper} {rest : List Oper} {w : World} {o : Oper} {a : Act} {Q : Exit → Act → World → Prop} (hgd : o.guard = none) (s x : Operand)
    (ho : o.op = .call { callee := .builtin .append, args := #[s, x], argTypes := #[64, 64] })
    (v : Value) (xs : List Int) (hs : a.eval s = v) (hR : Rw w v xs) (ad : Addr) (c y) (hx : a.eval x = .slice (some ad) 1 c) (hy : w.cell? (ad.add 0) = some (.int .i64 y)) (hlen : xs.length ≤ 1000)
    (h : ∀ v' w', Rw w' v' (xs ++ [y]) → w.grownBy w' v.ownBlock → (∀ g, v'.ownBlock = some g → v.ownBlock = some g ∨ w.heap.size ≤ g) → wpList Try.prog ops Q rest (a.put o.dst v') w') : wpList Try.prog ops Q (o :: rest) a w :=
  wpList_plain hgd fun _ hK => wp_append_off s x ho v xs hs hR ad c y hx hy hlen fun v' w' h1 h2 h3 => hK _ _ (h v' w' h1 h2 h3)

theorem step_append_off {ops : Array Oper} {w : World} {o : Oper} {a : Act} {K : Act → World → Prop} {Q : Exit → Act → World → Prop} {E : Prop} (hgd : o.guard = none) (s x : Operand)
    (ho : o.op = .call { callee := .builtin .append, args := #[s, x], argTypes := #[64, 64] })
    (v : Value) (xs : List Int) (hs : a.eval s = v) (hR : Rw w v xs) (ad : Addr) (c y) (hx : a.eval x = .slice (some ad) 1 c) (hy : w.cell? (ad.add 0) = some (.int .i64 y)) (hlen : xs.length ≤ 1000)
    (h : ∀ v' w', Rw w' v' (xs ++ [y]) → w.grownBy w' v.ownBlock → (∀ g, v'.ownBlock = some g → v.ownBlock = some g ∨ w.heap.size ≤ g) → K (a.put o.dst v') w') :
    if Region.wanted o (yielded ops a.tmps) = true then Oper.wp Try.prog o a w K Q else E := by
  have hw : Region.wanted o (yielded ops a.tmps) = true := by simp [Region.wanted, hgd]
  rw [if_pos hw]
  exact wp_append_off s x ho v xs hs hR ad c y hx hy hlen h

end Go.Proofs.Ytjggnhcdnfmmeaa
