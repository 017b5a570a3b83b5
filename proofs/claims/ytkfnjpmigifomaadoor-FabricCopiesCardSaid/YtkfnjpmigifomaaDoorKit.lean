/- What this text holds: small words on memory that all later texts use: a world that has grown (Past), regions that draw their order over such worlds, results. No condition. -/
import Derived.Test.YtkfnjpmigifomaaDoorProg
import Derived.WalkKit
import Derived.WalkSpells
import Derived.WalkLawsBesides
import Derived.Deep.QuietTactic
import Derived.Deep.LoopGhost
import Derived.Deep.DeepFit
import Derived.BigQuiet
import Derived.KernelRfl
import Derived.Lib.Hide
namespace Go.Proofs.YtkfnjpmigifomaaDoor
open Go.RowKit

/-- Equal values are equal endings. -/
theorem ret_int {k : IntKind} {a b : Int} (h : a = b) : Ending.returned (.int k a) = .returned (.int k b) := by rw [h]
theorem ret_bool {a b : Bool} (h : a = b) : Ending.returned (.bool a) = .returned (.bool b) := by rw [h]

/-- A world that has grown out of w: what lay there lies as it lay. -/
structure Past (w : World) where
  val : World
  below : Below w.heap.size w val
def Past.here (w : World) : Past w := ⟨w, Below.refl _ _⟩
instance (w : World) : Nonempty (Past w) := ⟨Past.here w⟩
theorem Past.size {w : World} (p : Past w) : w.heap.size ≤ p.val.heap.size := p.below.size
theorem Past.cell {w : World} (p : Past w) (b o : Nat) (h : b < w.heap.size) : p.val.cell? ⟨b, o, none⟩ = w.cell? ⟨b, o, none⟩ := p.below.cell (p := ⟨b, o, none⟩) h
theorem Past.frozen {w : World} (p : Past w) (b o : Nat) (h : b < w.heap.size) : p.val.frozen? ⟨b, o, none⟩ = w.frozen? ⟨b, o, none⟩ := p.below.frozen (p := ⟨b, o, none⟩) h
theorem Past.block {w : World} (p : Past w) (b : Nat) (h : b < w.heap.size) : p.val.heap[b]? = w.heap[b]? := p.below.block b h
attribute [go_sem] Past.cell Past.frozen Past.block

/-- A region that draws its order, whose operations read and whose calls make memory at most: one walk in the order of the text. -/
theorem region_past {P : Program} {id : Nat} {Q : Exit → Act → World → Prop} {a : Act} {w : World} {l : List Oper} (hm : P.follows .mixedOrders = true) (hB : Region.lexB .any l.toArray = true)
    (h : wpQuiet P l.toArray (fun w' => ∃ p : Past w, w' = p.val) (fun a' => ∀ w', (∃ p : Past w, w' = p.val) → Q .normal a' w') l a) : (Code.region id l.toArray true).wp P Q a w :=
  wp_region_quiet (C := fun w' => ∃ p : Past w, w' = p.val) hm hB ⟨⟨{ w with drawn := w.drawn + 1 }, ⟨rfl, rfl, rfl, Nat.le_refl _, fun _ _ => rfl⟩⟩, rfl⟩ (by simpa using h)

/-- A contract that makes memory at most, met in such a region. -/
theorem calls_past {P : Program} {f : FuncId} {args : Array Value} {w : World} {p : Past w} {v : Value}
    (h : Calls P f args p.val fun e w' => e = .returned v ∧ Below p.val.heap.size p.val w') : Calls P f args p.val fun e w'' => e = .returned v ∧ ∃ q : Past w, w'' = q.val :=
  h.mono fun _ w'' ⟨he, hb⟩ => ⟨he, ⟨w'', p.below.trans (hb.mono p.size)⟩, rfl⟩

/-- What a world that has grown gives to a walk. -/
theorem bcell {W w1 : World} (hb : Below W.heap.size W w1) : (∀ b o, b < W.heap.size → w1.cell? ⟨b, o, none⟩ = W.cell? ⟨b, o, none⟩) ∧ (∀ b o, b < W.heap.size → w1.frozen? ⟨b, o, none⟩ = W.frozen? ⟨b, o, none⟩) :=
  ⟨fun b o h => hb.cell (p := ⟨b, o, none⟩) h, fun b o h => hb.frozen (p := ⟨b, o, none⟩) h⟩
theorem below_drewN {B : Nat} {a w : World} (h : Below B a w) (n : Nat) : Below B a (w.drewN n) := ⟨h.os, h.tape, h.output, h.size, h.block⟩

theorem ext_trans {a b c : World} (h : Below a.heap.size a b) (k : Below b.heap.size b c) : Below a.heap.size a c := h.trans (k.mono h.size)
theorem ext_next {a b c : World} (k : Below b.heap.size b c) (h : Below a.heap.size a b) : Below a.heap.size a c := ext_trans h k
theorem ext_alloc {a w : World} (o : Obj) (h : Below a.heap.size a w) : Below a.heap.size a (w.alloc o) := h.alloc h.size o
theorem ext_past {a w : World} (p : Past w) (h : Below a.heap.size a w) : Below a.heap.size a p.val := ext_trans h p.below
theorem ext_drew {a w : World} (h : Below a.heap.size a w) : Below a.heap.size a w.drew := h.drew
theorem ext_drewN {a w : World} (n : Nat) (h : Below a.heap.size a w) : Below a.heap.size a (w.drewN n) := below_drewN h n

/-- A slice of ints that reads as a list; nil and empty ones let in. -/
def SlI (w : World) (A : Option Addr) (xs : List Int) : Prop :=
  0 < xs.length → ∃ b off, A = some ⟨b, off, none⟩ ∧ b < w.heap.size ∧ ∀ i, i < xs.length → w.cell? ⟨b, off + i, none⟩ = some (.int .i64 (xs[i]?.getD 0))
theorem SlI.ext {w w' : World} {A : Option Addr} {xs : List Int} (hb : Below w.heap.size w w') (h : SlI w A xs) : SlI w' A xs := fun h0 => by
  obtain ⟨b, off, hA, hl, hc⟩ := h h0
  exact ⟨b, off, hA, Nat.lt_of_lt_of_le hl hb.size, fun i hi => (hb.cell (p := ⟨b, off + i, none⟩) hl).trans (hc i hi)⟩
theorem SlI.alloc {w : World} {A : Option Addr} {xs : List Int} (h : SlI w A xs) (o : Obj) : SlI (w.alloc o) A xs := h.ext ((Below.refl _ _).alloc (Nat.le_refl _) o)
theorem SlI.past {w : World} {A : Option Addr} {xs : List Int} (h : SlI w A xs) (p : Past w) : SlI p.val A xs := h.ext p.below
theorem SlI.drew {w : World} {A : Option Addr} {xs : List Int} (h : SlI w A xs) : SlI w.drew A xs := h

theorem countP_take {p : Int → Bool} {xs : List Int} {k : Nat} (hk : k < xs.length) : (xs.take (k + 1)).countP p = (xs.take k).countP p + if p (xs[k]?.getD 0) then 1 else 0 := by
  rw [List.take_succ_eq_append_getElem hk, List.countP_append]
  simp [List.getElem?_eq_getElem hk, List.countP_cons]
theorem all_take {p : Int → Bool} {xs : List Int} {k : Nat} (hk : k < xs.length) : (xs.take (k + 1)).all p = ((xs.take k).all p && p (xs[k]?.getD 0)) := by
  rw [List.take_succ_eq_append_getElem hk, List.all_append]
  simp [List.getElem?_eq_getElem hk]
theorem all_get {p : Int → Bool} {xs : List Int} {k : Nat} (hk : k < xs.length) (h : p (xs[k]?.getD 0) = false) : xs.all p = false := by
  rw [List.getElem?_eq_getElem hk] at h
  simp only [List.all_eq_false]
  exact ⟨_, List.getElem_mem hk, by simpa using h⟩
theorem countP_take_le {p : Int → Bool} {xs : List Int} {k : Nat} : (xs.take k).countP p ≤ k := Nat.le_trans List.countP_le_length (List.length_take_le _ _)

theorem ret_two {k k' : IntKind} {a b c d : Int} (h : a = c) (h' : b = d) : Ending.returned (.tuple #[.int k a, .int k' b]) = .returned (.tuple #[.int k c, .int k' d]) := by rw [h, h']

end Go.Proofs.YtkfnjpmigifomaaDoor
