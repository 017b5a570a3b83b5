/- What this text holds: small words on memory that all later texts use: a world that has grown (Past), regions that draw their order over such worlds, results. No condition. What this text holds: a region that draws its order, inside a round of a range over a function: walked once, as outside. No condition. What this text holds: an append of a slice, nil or not, to a row of the call's own, whichever way it goes. No condition. What this text holds: a range over a function whose loop variables lie in slots: the law, without the frame written out. No condition. -/
import Derived.Test.YtkobeajbiendlaaDoorProg
import Derived.WalkKit
import Derived.WalkSpells
import Derived.WalkLawsBesides
import Derived.Deep.QuietTactic
import Derived.Deep.LoopGhost
import Derived.Deep.DeepFit
import Derived.BigQuiet
import Derived.KernelRfl
import Derived.Lib.Hide
import Derived.Sort.BigQuietIn
import Derived.RangeFuncNested
import Derived.Lib.SmallJoins
import Derived.ArgAppend
import Derived.Laws.AppendOwnNone
import Derived.Deep.RegionLaw
import Derived.Deep.AppendLies
import Derived.RangeFuncBound
import Derived.RangeFuncCalls
import Derived.RangeFuncLeaves
import Derived.Shelf.Abstract
import Derived.Shelf.RegionOpen
import Derived.OwnWalkIn
import Derived.TacticsInMore
import Derived.LoopNIn
import Derived.LoopIn
namespace Go.Proofs.YtkobeajbiendlaaDoor
open Go.RowKit

/-- Equal values are equal endings. -/
theorem ret_int {k : IntKind} {a b : Int} (h : a = b) : Ending.returned (.int k a) = .returned (.int k b) := by rw [h]
theorem ret_bool {a b : Bool} (h : a = b) : Ending.returned (.bool a) = .returned (.bool b) := by rw [h]

/-- A world that has grown out of w: what lay there lies as it lay. -/
structure Past (w : World) where
  val : World
  below : Below w.heap.size w val
def Past.here (w : World) : Past w := ⟨w, Below.refl _ _⟩
instance (w : World) : Nonempty (Past w) := ⟨Past.here w⟩
theorem Past.size {w : World} (p : Past w) : w.heap.size ≤ p.val.heap.size := p.below.size
theorem Past.cell {w : World} (p : Past w) (b o : Nat) (h : b < w.heap.size) : p.val.cell? ⟨b, o, none⟩ = w.cell? ⟨b, o, none⟩ := p.below.cell (p := ⟨b, o, none⟩) h
theorem Past.frozen {w : World} (p : Past w) (b o : Nat) (h : b < w.heap.size) : p.val.frozen? ⟨b, o, none⟩ = w.frozen? ⟨b, o, none⟩ := p.below.frozen (p := ⟨b, o, none⟩) h
theorem Past.block {w : World} (p : Past w) (b : Nat) (h : b < w.heap.size) : p.val.heap[b]? = w.heap[b]? := p.below.block b h
attribute [go_sem] Past.cell Past.frozen Past.block

/-- A region that draws its order, whose operations read and whose calls make memory at most: one walk in the order of the text. -/
theorem region_past {P : Program} {id : Nat} {Q : Exit → Act → World → Prop} {a : Act} {w : World} {l : List Oper} (hm : P.follows .mixedOrders = true) (hB : Region.lexB .any l.toArray = true)
    (h : wpQuiet P l.toArray (fun w' => ∃ p : Past w, w' = p.val) (fun a' => ∀ w', (∃ p : Past w, w' = p.val) → Q .normal a' w') l a) : (Code.region id l.toArray true).wp P Q a w :=
  wp_region_quiet (C := fun w' => ∃ p : Past w, w' = p.val) hm hB ⟨⟨{ w with drawn := w.drawn + 1 }, ⟨rfl, rfl, rfl, Nat.le_refl _, fun _ _ => rfl⟩⟩, rfl⟩ (by simpa using h)

/-- A contract that makes memory at most, met in such a region. -/
theorem calls_past {P : Program} {f : FuncId} {args : Array Value} {w : World} {p : Past w} {v : Value}
    (h : Calls P f args p.val fun e w' => e = .returned v ∧ Below p.val.heap.size p.val w') : Calls P f args p.val fun e w'' => e = .returned v ∧ ∃ q : Past w, w'' = q.val :=
  h.mono fun _ w'' ⟨he, hb⟩ => ⟨he, ⟨w'', p.below.trans (hb.mono p.size)⟩, rfl⟩

/-- What a world that has grown gives to a walk. -/
theorem bcell {W w1 : World} (hb : Below W.heap.size W w1) : (∀ b o, b < W.heap.size → w1.cell? ⟨b, o, none⟩ = W.cell? ⟨b, o, none⟩) ∧ (∀ b o, b < W.heap.size → w1.frozen? ⟨b, o, none⟩ = W.frozen? ⟨b, o, none⟩) :=
  ⟨fun b o h => hb.cell (p := ⟨b, o, none⟩) h, fun b o h => hb.frozen (p := ⟨b, o, none⟩) h⟩
theorem below_drewN {B : Nat} {a w : World} (h : Below B a w) (n : Nat) : Below B a (w.drewN n) := ⟨h.os, h.tape, h.output, h.size, h.block⟩

theorem ext_trans {a b c : World} (h : Below a.heap.size a b) (k : Below b.heap.size b c) : Below a.heap.size a c := h.trans (k.mono h.size)
theorem ext_next {a b c : World} (k : Below b.heap.size b c) (h : Below a.heap.size a b) : Below a.heap.size a c := ext_trans h k
theorem ext_alloc {a w : World} (o : Obj) (h : Below a.heap.size a w) : Below a.heap.size a (w.alloc o) := h.alloc h.size o
theorem ext_past {a w : World} (p : Past w) (h : Below a.heap.size a w) : Below a.heap.size a p.val := ext_trans h p.below
theorem ext_drew {a w : World} (h : Below a.heap.size a w) : Below a.heap.size a w.drew := h.drew
theorem ext_drewN {a w : World} (n : Nat) (h : Below a.heap.size a w) : Below a.heap.size a (w.drewN n) := below_drewN h n

/-- A slice of ints that reads as a list; nil and empty ones let in. -/
def SlI (w : World) (A : Option Addr) (xs : List Int) : Prop :=
  0 < xs.length → ∃ b off, A = some ⟨b, off, none⟩ ∧ b < w.heap.size ∧ ∀ i, i < xs.length → w.cell? ⟨b, off + i, none⟩ = some (.int .i64 (xs[i]?.getD 0))
theorem SlI.ext {w w' : World} {A : Option Addr} {xs : List Int} (hb : Below w.heap.size w w') (h : SlI w A xs) : SlI w' A xs := fun h0 => by
  obtain ⟨b, off, hA, hl, hc⟩ := h h0
  exact ⟨b, off, hA, Nat.lt_of_lt_of_le hl hb.size, fun i hi => (hb.cell (p := ⟨b, off + i, none⟩) hl).trans (hc i hi)⟩
theorem SlI.alloc {w : World} {A : Option Addr} {xs : List Int} (h : SlI w A xs) (o : Obj) : SlI (w.alloc o) A xs := h.ext ((Below.refl _ _).alloc (Nat.le_refl _) o)
theorem SlI.past {w : World} {A : Option Addr} {xs : List Int} (h : SlI w A xs) (p : Past w) : SlI p.val A xs := h.ext p.below
theorem SlI.drew {w : World} {A : Option Addr} {xs : List Int} (h : SlI w A xs) : SlI w.drew A xs := h

theorem countP_take {p : Int → Bool} {xs : List Int} {k : Nat} (hk : k < xs.length) : (xs.take (k + 1)).countP p = (xs.take k).countP p + if p (xs[k]?.getD 0) then 1 else 0 := by
  rw [List.take_succ_eq_append_getElem hk, List.countP_append]
  simp [List.getElem?_eq_getElem hk, List.countP_cons]
theorem all_take {p : Int → Bool} {xs : List Int} {k : Nat} (hk : k < xs.length) : (xs.take (k + 1)).all p = ((xs.take k).all p && p (xs[k]?.getD 0)) := by
  rw [List.take_succ_eq_append_getElem hk, List.all_append]
  simp [List.getElem?_eq_getElem hk]
theorem all_get {p : Int → Bool} {xs : List Int} {k : Nat} (hk : k < xs.length) (h : p (xs[k]?.getD 0) = false) : xs.all p = false := by
  rw [List.getElem?_eq_getElem hk] at h
  simp only [List.all_eq_false]
  exact ⟨_, List.getElem_mem hk, by simpa using h⟩
theorem countP_take_le {p : Int → Bool} {xs : List Int} {k : Nat} : (xs.take k).countP p ≤ k := Nat.le_trans List.countP_le_length (List.length_take_le _ _)

theorem ret_two {k k' : IntKind} {a b c d : Int} (h : a = c) (h' : b = d) : Ending.returned (.tuple #[.int k a, .int k' b]) = .returned (.tuple #[.int k c, .int k' d]) := by rw [h, h']

end Go.Proofs.YtkobeajbiendlaaDoor
namespace Go.Proofs.YtkobeajbiendlaaDoor
open Go.RowKit

theorem wpOpIn_round {F : Fence} {n : Nat} {P : Program} {ops : Array Oper} {Q : Exit → Act → World → Prop} {i : Nat} {K K' : Act → World → Prop} {a : Act} {w : World} {r : Nat}
    (hro : F.round = none) (hd : ∀ (o : Oper), ops[i]? = some o → ∀ c, o.op ≠ .defer c) (hK : ∀ a w, K a w → K' a w) (h : wpOpIn F n P ops Q i K a w) : wpOpIn (F.inRound r) n P ops Q i K' a w := by
  have h := wpOpIn_mono hK h
  unfold wpOpIn at *
  cases ho : ops[i]? with
  | none => simpa [ho] using h
  | some o =>
    simp only [ho] at h ⊢
    split
    · rename_i hw
      simp only [hw, if_true] at h
      unfold Oper.wpIn at *
      refine ⟨h.1, ?_⟩
      have e : o.semAt (F.inRound r).round a.eval = o.semAt F.round a.eval := by
        rw [hro, Oper.semAt_none]
        exact Oper.semAt_some r _ _ (hd o ho)
      rw [e]
      have h2 := h.2
      generalize (o.semAt F.round a.eval).run P w = x at *
      exact h2
    · rename_i hw
      simp only [hw] at h
      exact h

theorem wpAnyIn_round {F : Fence} {n : Nat} {P : Program} {md : Region.Mode} {ops : Array Oper} {Q : Exit → Act → World → Prop} {r : Nat} (hro : F.round = none) (hd : ∀ (i : Nat) (o : Oper), ops[i]? = some o → ∀ c, o.op ≠ .defer c) :
    ∀ (fuel : Nat) (listed : Array Bool) (a : Act) (w : World), wpAnyIn F n P md ops Q fuel listed a w → wpAnyIn (F.inRound r) n P md ops Q fuel listed a w
  | 0, _, _, _, h => h
  | fuel + 1, _, _, _, h => ⟨h.1, fun i hi => wpOpIn_round hro (hd i) (fun a w h => wpAnyIn_round hro hd fuel _ a w h) (h.2 i hi)⟩

def noDefer (l : List Oper) : Bool := l.all fun o => match o.op with | .defer _ => false | _ => true
theorem noDefer_of {l : List Oper} (h : noDefer l = true) : ∀ (i : Nat) (o : Oper), l.toArray[i]? = some o → ∀ c, o.op ≠ .defer c := by
  intro i o ho c hc
  have hm : o ∈ l := by
    rw [List.getElem?_toArray] at ho
    exact List.mem_of_getElem? ho
  have := List.all_eq_true.1 h o hm
  rw [hc] at this
  cases this

/-- A region that draws its order, in a round, whose operations read and whose calls make memory at most: one walk in the order of the text. -/
theorem region_past_round {P : Program} {n : Nat} {id r : Nat} {Q : Exit → Act → World → Prop} {a : Act} {w : World} {l : List Oper} (hm : P.follows .mixedOrders = true) (hB : Region.lexB .any l.toArray = true) (hd : noDefer l = true)
    (h : wpQuietIn Fence.wide n P l.toArray (fun w' => ∃ p : Past w, w' = p.val) (fun a' => ∀ w', (∃ p : Past w, w' = p.val) → Q .normal a' w') l a) : (Code.region id l.toArray true).wpIn (Fence.wide.inRound r) n P Q a w := by
  have hro : Fence.wide.round = none := rfl
  have hB' := hB
  simp only [Region.lexB, Bool.and_eq_true] at hB'
  refine wpIn_region_any hm (wpAnyIn_round hro (noDefer_of hd) _ _ _ _ (wpAnyIn_of_quiet (C := fun w' => ∃ p : Past w, w' = p.val) (Q := fun a' => ∀ w', (∃ p : Past w, w' = p.val) → Q .normal a' w') hro (fun _ w' hw' h => h w' hw') _ _ _ _ ⟨⟨{ w with drawn := w.drawn + 1 }, ⟨rfl, rfl, rfl, Nat.le_refl _, fun _ _ => rfl⟩⟩, rfl⟩ ?_))
  have := wpAnyQIn_lex (F := Fence.wide) (n := n) (C := fun w' => ∃ p : Past w, w' = p.val) (md := .any) hB'.1 l 0 (Array.replicate l.toArray.size false) a (by simp) (by simpa using hB'.2) h
  simpa using this

/-- The same outside of a round. -/
theorem region_past_in {P : Program} {n : Nat} {id : Nat} {Q : Exit → Act → World → Prop} {a : Act} {w : World} {l : List Oper} (hm : P.follows .mixedOrders = true) (hB : Region.lexB .any l.toArray = true)
    (h : wpQuietIn Fence.wide n P l.toArray (fun w' => ∃ p : Past w, w' = p.val) (fun a' => ∀ w', (∃ p : Past w, w' = p.val) → Q .normal a' w') l a) : (Code.region id l.toArray true).wpIn Fence.wide n P Q a w :=
  wpIn_region_quiet (C := fun w' => ∃ p : Past w, w' = p.val) rfl hm hB ⟨⟨{ w with drawn := w.drawn + 1 }, ⟨rfl, rfl, rfl, Nat.le_refl _, fun _ _ => rfl⟩⟩, rfl⟩ (by simpa using h)

/-- A block of cells outlives the turn of what is no cells. -/
theorem blk_held {W W' : World} {row : Option Nat} {b : Nat} {cs : Array Value} {t : TypeId} {fr : Nat × Nat} (h : W.heap[b]? = some (.cells cs t fr)) (hg : W.grownBy W' row)
    (hr : ∀ r, row = some r → ∃ o : Obj, W.heap[r]? = some o ∧ o.isCells = false) : W'.heap[b]? = some (.cells cs t fr) := by
  rw [hg.block b (Array.getElem?_eq_some_iff.1 h).1 (fun e => ?_)]
  · exact h
  · obtain ⟨o, ho, hc⟩ := hr b e.symm
    rw [h] at ho
    obtain rfl := Option.some.inj ho
    simp [Obj.isCells] at hc
theorem cell_of {W : World} {B : Nat} {v : Value} {t : TypeId} {fr : Nat × Nat} (h : W.heap[B]? = some (.cells #[v] t fr)) : W.cell? ⟨B, 0, none⟩ = some v := by
  simp [World.cell?, h]
theorem free_of {W : World} {B : Nat} {v : Value} {t : TypeId} (h : W.heap[B]? = some (.cells #[v] t (0, 0))) : W.frozen? ⟨B, 0, none⟩ = false := by
  simp [World.frozen?, h]
theorem set_of {W : World} {B : Nat} {v u : Value} {t : TypeId} {fr : Nat × Nat} (h : W.heap[B]? = some (.cells #[v] t fr)) : (W.setCell ⟨B, 0, none⟩ u).heap[B]? = some (.cells #[u] t fr) := by
  have := Joins.block_setCell (i := 0) h u
  simpa using this
theorem lt_of {W : World} {B : Nat} {o : Obj} (h : W.heap[B]? = some o) : B < W.heap.size := (Array.getElem?_eq_some_iff.1 h).1
theorem alOld {W : World} {o x : Obj} {k : Nat} (h : W.heap[k]? = some x) : (W.alloc o).heap[k]? = some x := (Below.heap_alloc W o k (lt_of h)).trans h
theorem alNew {W : World} {o : Obj} {k : Nat} (hk : k = W.heap.size) : (W.alloc o).heap[k]? = some o := by rw [hk]; exact World.alloc_heap_new W o
theorem grown_of {W W' : World} (h : Below W.heap.size W W') : W.grownBy W' none := ⟨h.os, h.tape, h.output, h.size, fun k hk _ => h.block k hk⟩

end Go.Proofs.YtkobeajbiendlaaDoor
namespace Go.Proofs.YtkobeajbiendlaaDoor
open Go.RowKit

theorem row_mono {w : World} {b b' : Nat} {e : TypeId} {size n : Nat} {v : Value} {xs : List Value} (h : w.ownsRow b e size v n xs) (hb : b' ≤ b) : w.ownsRow b' e size v n xs :=
  ⟨h.1, h.2.imp id fun ⟨g, cap, cur, h1, h2, h3⟩ => ⟨g, cap, cur, h1, Nat.le_trans hb h2, h3⟩⟩
theorem row_form {w : World} {b : Nat} {e : TypeId} {size n : Nat} {v : Value} {xs : List Value} (h : w.ownsRow b e size v n xs) : ∃ A c, v = .slice A n c ∧ (A = none → n = 0 ∧ c = 0) := by
  rcases h.2 with ⟨rfl, rfl⟩ | ⟨g, cap, cur, rfl, _⟩
  · exact ⟨none, 0, rfl, fun _ => ⟨rfl, rfl⟩⟩
  · exact ⟨_, _, rfl, fun h => by cases h⟩
/-- A row lies as it lay where its block does. -/
theorem row_keep {w w' : World} {base : Nat} {e : TypeId} {size n : Nat} {v : Value} {xs : List Value} (h : w.ownsRow base e size v n xs) (k : ∀ g, v.ownBlock = some g → w'.heap[g]? = w.heap[g]?) : w'.ownsRow base e size v n xs := by
  refine ⟨h.1, ?_⟩
  rcases h.2 with hn | ⟨g, cap, cur, rfl, hb, hgg, rest⟩
  · exact .inl hn
  · exact .inr ⟨g, cap, cur, rfl, hb, (k g rfl).trans hgg, rest⟩

section
variable {P : Program} (w : World)

theorem wp_append_full {o : Oper} {a : Act} {K : Act → World → Prop} {Q : Exit → Act → World → Prop} (s x : Operand) (t : TypeId)
    (ho : o.op = .call { callee := .builtin .append, args := #[s, x], argTypes := #[t, t] })
    (base : Nat) (e : TypeId) (i : TypeInfo) (z : Value) (size bytes : Nat) (ht : P.underlying t = some (.slice e)) (hi : P.info? e = some i) (hz : i.zero = some z)
    (hsize : i.size = size) (hby : i.bytes = bytes) (hzs : z.cells.size = size) (hsz : 0 < size)
    (v : Value) (n : Nat) (xs : List Value) (hs : a.eval s = v) (hown : w.ownsRow base e size v n xs)
    (A : Option Addr) (m c : Nat) (news : List Value) (hx : a.eval x = .slice A m c) (hA : A = none → m = 0 ∧ c = 0) (hl : news.length = m * size) (hnews : ∀ ad, A = some ad → ∀ j u, news[j]? = some u → w.cell? (ad.add j) = some u) (h1 : ∀ u ∈ news, u.oneCell' = true)
    (h63 : n + m ≤ maxLen) (hbytes : (n + m) * bytes ≤ 140737488355328) (hbase : base ≤ w.heap.size)
    (h : ∀ A' c' w', (A' = none → c' = 0) → w'.ownsRow base e size (.slice A' (n + m) c') (n + m) (xs ++ news) → w.grownBy w' v.ownBlock → (∀ g, (Value.slice A' (n + m) c').ownBlock = some g → v.ownBlock = some g ∨ w.heap.size ≤ g) → K (a.put o.dst (.slice A' (n + m) c')) w') :
    o.wp P a w K Q := by
  cases A with
  | none =>
    obtain ⟨rfl, rfl⟩ := hA rfl
    have hnil : news = [] := List.eq_nil_of_length_eq_zero (by omega)
    subst hnil
    obtain ⟨A', c', rfl, hA'⟩ := row_form hown
    have hrun := run_append_owned_none (P := P) (w := w) base t o.type e i size ht hi _ n xs hown
    unfold Oper.wp
    simp only [execOp, ho, resolve, invoke, builtin]
    have := h A' c' w (fun e => (hA' e).2) (by simpa using hown) ⟨rfl, rfl, rfl, Nat.le_refl _, fun _ _ _ => rfl⟩ (fun g hg => .inl hg)
    simp [hs, hx, hrun, Result.andThen, Oper.upon]
    simpa using this
  | some ad =>
    rcases hown.2 with ⟨rfl, rfl⟩ | ⟨g, cap, cur, rfl, hbg, hgg, hnc, hcm, hcs, htk⟩
    · have hxs : xs = [] := List.eq_nil_of_length_eq_zero (by have := hown.1; omega)
      subst hxs
      refine wp_append_own w s x t ho w.heap.size e i z size bytes ht hi hz hsize hby hzs hsz _ 0 [] hs (World.ownsRow_nil _ _ _ _) ad m c news hx hl (hnews ad rfl) h1 h63 hbytes (Nat.le_refl _) ?_
      intro v' w' hown' hgrow _
      obtain ⟨A', c', rfl, hA'⟩ := row_form hown'
      exact h A' c' w' (fun e => (hA' e).2) (row_mono hown' hbase) hgrow (fun g hg => .inr (hown'.lt g hg).1)
    · by_cases hroom : n + m ≤ cap
      · obtain ⟨w', hrun, r1, r2⟩ := run_append_fits (P := P) w base t o.type e i size ht hi hsize g n cap xs hown ad m c news hl (hnews ad rfl) h1 hroom
        unfold Oper.wp
        simp [execOp, ho, resolve, invoke, builtin, hs, hx, hrun, Result.andThen]
        exact h _ _ w' (fun e => by cases e) r1 r2 (fun g' hg' => .inl hg')
      · have hlo := hown.cells (g := g) rfl
        obtain ⟨v', w', hrun, r1, r2⟩ := run_append_arg_grows (P := P) w t o.type e i z size bytes ht hi hz hsize hby hzs hsz ⟨g, 0, none⟩ n cap xs hown.1 hlo ad m c news hl (hnews ad rfl) (by omega) h63 hbytes
        obtain ⟨A', c', rfl, hA'⟩ := row_form r1
        unfold Oper.wp
        simp [execOp, ho, resolve, invoke, builtin, hs, hx, hrun, Result.andThen]
        exact h _ _ w' (fun e => (hA' e).2) (row_mono r1 hbase) ⟨r2.os, r2.tape, r2.output, r2.size, fun k hk _ => r2.block k hk (fun e => by cases e)⟩ (fun g' hg' => .inr (r1.lt g' hg').1)

theorem wpList_append_full {ops : Array Oper} {rest : List Oper} {o : Oper} {a : Act} {Q : Exit → Act → World → Prop} (hgd : o.guard = none) (s x : Operand) (t : TypeId)
    (ho : o.op = .call { callee := .builtin .append, args := #[s, x], argTypes := #[t, t] })
    (base : Nat) (e : TypeId) (i : TypeInfo) (z : Value) (size bytes : Nat) (ht : P.underlying t = some (.slice e)) (hi : P.info? e = some i) (hz : i.zero = some z)
    (hsize : i.size = size) (hby : i.bytes = bytes) (hzs : z.cells.size = size) (hsz : 0 < size)
    (v : Value) (n : Nat) (xs : List Value) (hs : a.eval s = v) (hown : w.ownsRow base e size v n xs)
    (A : Option Addr) (m c : Nat) (news : List Value) (hx : a.eval x = .slice A m c) (hA : A = none → m = 0 ∧ c = 0) (hl : news.length = m * size) (hnews : ∀ ad, A = some ad → ∀ j u, news[j]? = some u → w.cell? (ad.add j) = some u) (h1 : ∀ u ∈ news, u.oneCell' = true)
    (h63 : n + m ≤ maxLen) (hbytes : (n + m) * bytes ≤ 140737488355328) (hbase : base ≤ w.heap.size)
    (h : ∀ A' c' w', (A' = none → c' = 0) → w'.ownsRow base e size (.slice A' (n + m) c') (n + m) (xs ++ news) → w.grownBy w' v.ownBlock → (∀ g, (Value.slice A' (n + m) c').ownBlock = some g → v.ownBlock = some g ∨ w.heap.size ≤ g) → wpList P ops Q rest (a.put o.dst (.slice A' (n + m) c')) w') :
    wpList P ops Q (o :: rest) a w :=
  wpList_plain hgd fun _ hK => wp_append_full w s x t ho base e i z size bytes ht hi hz hsize hby hzs hsz v n xs hs hown A m c news hx hA hl hnews h1 h63 hbytes hbase fun A' c' w' h2 h3 h4 h5 => hK _ _ (h A' c' w' h2 h3 h4 h5)

theorem step_append_full {ops : Array Oper} {o : Oper} {a : Act} {K : Act → World → Prop} {Q : Exit → Act → World → Prop} {E : Prop} (hgd : o.guard = none) (s x : Operand) (t : TypeId)
    (ho : o.op = .call { callee := .builtin .append, args := #[s, x], argTypes := #[t, t] })
    (base : Nat) (e : TypeId) (i : TypeInfo) (z : Value) (size bytes : Nat) (ht : P.underlying t = some (.slice e)) (hi : P.info? e = some i) (hz : i.zero = some z)
    (hsize : i.size = size) (hby : i.bytes = bytes) (hzs : z.cells.size = size) (hsz : 0 < size)
    (v : Value) (n : Nat) (xs : List Value) (hs : a.eval s = v) (hown : w.ownsRow base e size v n xs)
    (A : Option Addr) (m c : Nat) (news : List Value) (hx : a.eval x = .slice A m c) (hA : A = none → m = 0 ∧ c = 0) (hl : news.length = m * size) (hnews : ∀ ad, A = some ad → ∀ j u, news[j]? = some u → w.cell? (ad.add j) = some u) (h1 : ∀ u ∈ news, u.oneCell' = true)
    (h63 : n + m ≤ maxLen) (hbytes : (n + m) * bytes ≤ 140737488355328) (hbase : base ≤ w.heap.size)
    (h : ∀ A' c' w', (A' = none → c' = 0) → w'.ownsRow base e size (.slice A' (n + m) c') (n + m) (xs ++ news) → w.grownBy w' v.ownBlock → (∀ g, (Value.slice A' (n + m) c').ownBlock = some g → v.ownBlock = some g ∨ w.heap.size ≤ g) → K (a.put o.dst (.slice A' (n + m) c')) w') :
    if Region.wanted o (yielded ops a.tmps) = true then Oper.wp P o a w K Q else E := by
  have hw : Region.wanted o (yielded ops a.tmps) = true := by simp [Region.wanted, hgd]
  rw [if_pos hw]
  exact wp_append_full w s x t ho base e i z size bytes ht hi hz hsize hby hzs hsz v n xs hs hown A m c news hx hA hl hnews h1 h63 hbytes hbase h
end

end Go.Proofs.YtkobeajbiendlaaDoor
namespace Go.Proofs.YtkobeajbiendlaaDoor
open Go.RowKit

/-- The frame of a round: the loop variables' values in their slots. -/
def varFrame {α : Type} (a : Act) (ps : Array Tmp) (encs : α → Array Value) (sl : List (Nat × Nat)) (x : α) : Act :=
  { tmps := sl.foldl (fun t (s, i) => t.setIfInBounds s ((encs x)[i]?.getD undef)) ((ps.zip (encs x)).foldl (fun t (p, v) => t.setIfInBounds p v) a.tmps), defers := [] }

theorem wpIn_rangeFunc_var {F : Fence} {n : Nat} {P : Program} {α : Type} (sl : List (Nat × Nat)) {g : Operand} {ps : Array Tmp} {assign body : Code} {Q : Exit → Act → World → Prop} {a : Act} {w : World}
    (hro : F.round = none) (h1 : 1 ≤ n) {gf : Nat} {lb : Array Value} (hg : a.eval g = .func (.func gf) #[] lb) (hFg : F.fn gf) (eg : ∀ args w, (callFunc gf args).run P w = .ok (.enter gf args) w)
    {encs : α → Array Value} {Kp : World → World → Prop} {S Sp : List α → Prop} {N : Nat} {w0 : World} (hseq : SeqStopsK F (n - 1) P gf lb encs Kp S Sp N w0)
    (hKt : ∀ {A B C : World}, Kp A B → Kp B C → Kp A C) (hKr : ∀ W, Kp W W) (hKb : ∀ (W : World) (l : Nat) (o o' : Obj), w.heap.size ≤ l → W.heap[l]? = some o → o.isCells = false → o.isWalk = false → Kp W (W.putObj l o')) (hb0 : Below w0.heap.size w0 w) (hps : ∀ x, (encs x).size = ps.size)
    (I : List α → World → Prop) (Ix : Code → List α → World → Prop) (hI : OwnFrom w.heap.size I) (hIx : ∀ c, OwnFrom w.heap.size (Ix c)) (h0 : I [] w)
    (hassign : ∀ (l : Nat) (x : α) (W : World) (K : Act → World → Prop), K (varFrame a ps encs sl x) W →
      assign.wpIn (F.inRound l) (n - 1 - 1) P (Exit.then K (fun _ _ _ => False)) { tmps := (ps.zip (encs x)).foldl (fun t (p, v) => t.setIfInBounds p v) a.tmps, defers := [] } W)
    (hbody : ∀ (l : Nat) (pre : List α) (x : α) (W : World), w.heap.size ≤ l → (∃ r, W.heap[l]? = some (.loop r)) → I pre W → pre.length < N → body.wpIn (F.inRound l) (n - 1 - 1) P (ownPostG w.heap.size Kp I Ix (pre ++ [x]) W) (varFrame a ps encs sl x) W)
    (hdone : ∀ (D : Nat) (xs : List α) (W : World), w.heap.size ≤ D → S xs → I xs W → W.heap[D]? = some (.deferred (some [])) → Q .normal { a with defers := { target := .collected D, args := #[] } :: a.defers } W)
    (hstop : ∀ (D : Nat) (c : Code) (pre : List α) (W : World), w.heap.size ≤ D → Sp pre → Ix c pre W → W.heap[D]? = some (.deferred (some [])) → c.wpIn F n P Q { a with defers := { target := .collected D, args := #[] } :: a.defers } W) :
    (Code.rangeFunc g ps assign body).wpIn F n P Q a w :=
  wpIn_rangeFunc_ownH hro h1 hg hFg eg hseq hKt hKb hb0 hps I Ix hI hIx h0 (fun x a' _ => a' = varFrame a ps encs sl x) (fun _ _ => ownFrom_pure _ (fun _ => _))
    (fun l _ x W K hi hK => hassign l x W K (hK _ _ ((KeepsOthers.refl _).from _) (hKr _) hi rfl))
    (fun l pre x a' W hl hr hi hx hlen => by
      subst hx
      exact hbody l pre x W hl hr hi hlen)
    hdone hstop

end Go.Proofs.YtkobeajbiendlaaDoor
