/- What this text holds: a region that draws its order, inside a round of a range over a function: walked once, as outside. No condition. -/
import Derived.Test.YtkfnjpmigifomaaDoorKit
import Derived.Sort.BigQuietIn
import Derived.RangeFuncNested
import Derived.Lib.SmallJoins
namespace Go.Proofs.YtkfnjpmigifomaaDoor
open Go.RowKit

theorem wpOpIn_round {F : Fence} {n : Nat} {P : Program} {ops : Array Oper} {Q : Exit → Act → World → Prop} {i : Nat} {K K' : Act → World → Prop} {a : Act} {w : World} {r : Nat}
    (hro : F.round = none) (hd : ∀ (o : Oper), ops[i]? = some o → ∀ c, o.op ≠ .defer c) (hK : ∀ a w, K a w → K' a w) (h : wpOpIn F n P ops Q i K a w) : wpOpIn (F.inRound r) n P ops Q i K' a w := by
  have h := wpOpIn_mono hK h
  unfold wpOpIn at *
  cases ho : ops[i]? with
  | none => simpa [ho] using h
  | some o =>
    simp only [ho] at h ⊢
    split
    · rename_i hw
      simp only [hw, if_true] at h
      unfold Oper.wpIn at *
      refine ⟨h.1, ?_⟩
      have e : o.semAt (F.inRound r).round a.eval = o.semAt F.round a.eval := by
        rw [hro, Oper.semAt_none]
        exact Oper.semAt_some r _ _ (hd o ho)
      rw [e]
      have h2 := h.2
      generalize (o.semAt F.round a.eval).run P w = x at *
      exact h2
    · rename_i hw
      simp only [hw] at h
      exact h

theorem wpAnyIn_round {F : Fence} {n : Nat} {P : Program} {md : Region.Mode} {ops : Array Oper} {Q : Exit → Act → World → Prop} {r : Nat} (hro : F.round = none) (hd : ∀ (i : Nat) (o : Oper), ops[i]? = some o → ∀ c, o.op ≠ .defer c) :
    ∀ (fuel : Nat) (listed : Array Bool) (a : Act) (w : World), wpAnyIn F n P md ops Q fuel listed a w → wpAnyIn (F.inRound r) n P md ops Q fuel listed a w
  | 0, _, _, _, h => h
  | fuel + 1, _, _, _, h => ⟨h.1, fun i hi => wpOpIn_round hro (hd i) (fun a w h => wpAnyIn_round hro hd fuel _ a w h) (h.2 i hi)⟩

def noDefer (l : List Oper) : Bool := l.all fun o => match o.op with | .defer _ => false | _ => true
theorem noDefer_of {l : List Oper} (h : noDefer l = true) : ∀ (i : Nat) (o : Oper), l.toArray[i]? = some o → ∀ c, o.op ≠ .defer c := by
  intro i o ho c hc
  have hm : o ∈ l := by
    rw [List.getElem?_toArray] at ho
    exact List.mem_of_getElem? ho
  have := List.all_eq_true.1 h o hm
  rw [hc] at this
  cases this

/-- A region that draws its order, in a round, whose operations read and whose calls make memory at most: one walk in the order of the text. -/
theorem region_past_round {P : Program} {n : Nat} {id r : Nat} {Q : Exit → Act → World → Prop} {a : Act} {w : World} {l : List Oper} (hm : P.follows .mixedOrders = true) (hB : Region.lexB .any l.toArray = true) (hd : noDefer l = true)
    (h : wpQuietIn Fence.wide n P l.toArray (fun w' => ∃ p : Past w, w' = p.val) (fun a' => ∀ w', (∃ p : Past w, w' = p.val) → Q .normal a' w') l a) : (Code.region id l.toArray true).wpIn (Fence.wide.inRound r) n P Q a w := by
  have hro : Fence.wide.round = none := rfl
  have hB' := hB
  simp only [Region.lexB, Bool.and_eq_true] at hB'
  refine wpIn_region_any hm (wpAnyIn_round hro (noDefer_of hd) _ _ _ _ (wpAnyIn_of_quiet (C := fun w' => ∃ p : Past w, w' = p.val) (Q := fun a' => ∀ w', (∃ p : Past w, w' = p.val) → Q .normal a' w') hro (fun _ w' hw' h => h w' hw') _ _ _ _ ⟨⟨{ w with drawn := w.drawn + 1 }, ⟨rfl, rfl, rfl, Nat.le_refl _, fun _ _ => rfl⟩⟩, rfl⟩ ?_))
  have := wpAnyQIn_lex (F := Fence.wide) (n := n) (C := fun w' => ∃ p : Past w, w' = p.val) (md := .any) hB'.1 l 0 (Array.replicate l.toArray.size false) a (by simp) (by simpa using hB'.2) h
  simpa using this

/-- The same outside of a round. -/
theorem region_past_in {P : Program} {n : Nat} {id : Nat} {Q : Exit → Act → World → Prop} {a : Act} {w : World} {l : List Oper} (hm : P.follows .mixedOrders = true) (hB : Region.lexB .any l.toArray = true)
    (h : wpQuietIn Fence.wide n P l.toArray (fun w' => ∃ p : Past w, w' = p.val) (fun a' => ∀ w', (∃ p : Past w, w' = p.val) → Q .normal a' w') l a) : (Code.region id l.toArray true).wpIn Fence.wide n P Q a w :=
  wpIn_region_quiet (C := fun w' => ∃ p : Past w, w' = p.val) rfl hm hB ⟨⟨{ w with drawn := w.drawn + 1 }, ⟨rfl, rfl, rfl, Nat.le_refl _, fun _ _ => rfl⟩⟩, rfl⟩ (by simpa using h)

/-- A block of cells outlives the turn of what is no cells. -/
theorem blk_held {W W' : World} {row : Option Nat} {b : Nat} {cs : Array Value} {t : TypeId} {fr : Nat × Nat} (h : W.heap[b]? = some (.cells cs t fr)) (hg : W.grownBy W' row)
    (hr : ∀ r, row = some r → ∃ o : Obj, W.heap[r]? = some o ∧ o.isCells = false) : W'.heap[b]? = some (.cells cs t fr) := by
  rw [hg.block b (Array.getElem?_eq_some_iff.1 h).1 (fun e => ?_)]
  · exact h
  · obtain ⟨o, ho, hc⟩ := hr b e.symm
    rw [h] at ho
    obtain rfl := Option.some.inj ho
    simp [Obj.isCells] at hc
theorem cell_of {W : World} {B : Nat} {v : Value} {t : TypeId} {fr : Nat × Nat} (h : W.heap[B]? = some (.cells #[v] t fr)) : W.cell? ⟨B, 0, none⟩ = some v := by
  simp [World.cell?, h]
theorem free_of {W : World} {B : Nat} {v : Value} {t : TypeId} (h : W.heap[B]? = some (.cells #[v] t (0, 0))) : W.frozen? ⟨B, 0, none⟩ = false := by
  simp [World.frozen?, h]
theorem set_of {W : World} {B : Nat} {v u : Value} {t : TypeId} {fr : Nat × Nat} (h : W.heap[B]? = some (.cells #[v] t fr)) : (W.setCell ⟨B, 0, none⟩ u).heap[B]? = some (.cells #[u] t fr) := by
  have := Joins.block_setCell (i := 0) h u
  simpa using this
theorem lt_of {W : World} {B : Nat} {o : Obj} (h : W.heap[B]? = some o) : B < W.heap.size := (Array.getElem?_eq_some_iff.1 h).1
theorem alOld {W : World} {o x : Obj} {k : Nat} (h : W.heap[k]? = some x) : (W.alloc o).heap[k]? = some x := (Below.heap_alloc W o k (lt_of h)).trans h
theorem alNew {W : World} {o : Obj} {k : Nat} (hk : k = W.heap.size) : (W.alloc o).heap[k]? = some o := by rw [hk]; exact World.alloc_heap_new W o
theorem grown_of {W W' : World} (h : Below W.heap.size W W') : W.grownBy W' none := ⟨h.os, h.tape, h.output, h.size, fun k hk _ => h.block k hk⟩

end Go.Proofs.YtkfnjpmigifomaaDoor
