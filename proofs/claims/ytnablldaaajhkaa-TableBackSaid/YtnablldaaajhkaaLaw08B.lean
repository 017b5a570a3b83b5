/- What this text holds: small boxes of the call's own, and lists, carried over what is written elsewhere; the document's places. No condition. -/
import Derived.Test.YtnablldaaajhkaaLaw08
namespace Go.Proofs.Ytnablldaaajhkaa
open Go.RowKit

/-- A box of a call. -/
structure C3 (w : World) (B : Nat) (a b : Int) (l : Bool) : Prop where
  lt : B < w.heap.size
  c0 : w.cell? ⟨B, 0, none⟩ = some (.int .i64 a)
  c1 : w.cell? ⟨B, 1, none⟩ = some (.int .i64 b)
  c2 : w.cell? ⟨B, 2, none⟩ = some (.bool l)
theorem C3.of_block {w w' : World} {B : Nat} {a b : Int} {l : Bool} (h : C3 w B a b l) (hs : w.heap.size ≤ w'.heap.size) (hb : w'.heap[B]? = w.heap[B]?) : C3 w' B a b l :=
  ⟨Nat.lt_of_lt_of_le h.lt hs, (World.cell?_of_block (a := ⟨B, 0, none⟩) hb).trans h.c0, (World.cell?_of_block (a := ⟨B, 1, none⟩) hb).trans h.c1, (World.cell?_of_block (a := ⟨B, 2, none⟩) hb).trans h.c2⟩
theorem C3.ext {w w' : World} {B : Nat} {a b : Int} {l : Bool} (h : C3 w B a b l) (hb : Below w.heap.size w w') : C3 w' B a b l := h.of_block hb.size (hb.block B h.lt)
theorem C3.grown {w w' : World} {B g : Nat} {a b : Int} {l : Bool} (h : C3 w B a b l) (hg : w.grownBy w' (some g)) (hn : B ≠ g) : C3 w' B a b l := h.of_block hg.size (hg.block B h.lt (fun e => hn (Option.some.inj e)))
/-- A box of an entry. -/
structure C2 (w : World) (B : Nat) (a : Int) (l : Bool) : Prop where
  lt : B < w.heap.size
  c0 : w.cell? ⟨B, 0, none⟩ = some (.int .i64 a)
  c1 : w.cell? ⟨B, 1, none⟩ = some (.bool l)
theorem C2.of_block {w w' : World} {B : Nat} {a : Int} {l : Bool} (h : C2 w B a l) (hs : w.heap.size ≤ w'.heap.size) (hb : w'.heap[B]? = w.heap[B]?) : C2 w' B a l :=
  ⟨Nat.lt_of_lt_of_le h.lt hs, (World.cell?_of_block (a := ⟨B, 0, none⟩) hb).trans h.c0, (World.cell?_of_block (a := ⟨B, 1, none⟩) hb).trans h.c1⟩
theorem C2.ext {w w' : World} {B : Nat} {a : Int} {l : Bool} (h : C2 w B a l) (hb : Below w.heap.size w w') : C2 w' B a l := h.of_block hb.size (hb.block B h.lt)
theorem C2.grown {w w' : World} {B g : Nat} {a : Int} {l : Bool} (h : C2 w B a l) (hg : w.grownBy w' (some g)) (hn : B ≠ g) : C2 w' B a l := h.of_block hg.size (hg.block B h.lt (fun e => hn (Option.some.inj e)))
theorem C2.made (w : World) (a : Int) (l : Bool) (t : TypeId) : C2 (w.alloc (.cells #[.int .i64 a, .bool l] t)) w.heap.size a l := ⟨by simp, by simp [World.cell?_alloc_at], by simp [World.cell?_alloc_at]⟩
theorem C3.made (w : World) (a b : Int) (l : Bool) (t : TypeId) : C3 (w.alloc (.cells #[.int .i64 a, .int .i64 b, .bool l] t)) w.heap.size a b l := ⟨by simp, by simp [World.cell?_alloc_at], by simp [World.cell?_alloc_at], by simp [World.cell?_alloc_at]⟩

theorem SlI.grown {w w' : World} {A : Option Addr} {xs : List Int} {g : Nat} (h : SlI w A xs) (hg : w.grownBy w' (some g)) (hn : ∀ a, A = some a → a.block ≠ g) : SlI w' A xs := fun h0 => by
  obtain ⟨b, off, hA, hl, hc⟩ := h h0
  have hne : b ≠ g := hn _ hA
  exact ⟨b, off, hA, Nat.lt_of_lt_of_le hl hg.size, fun i hi => (World.cell?_of_block (a := ⟨b, off + i, none⟩) (hg.block b hl (fun e => hne (Option.some.inj e)))).trans (hc i hi)⟩

theorem atE_set_self {es : List En} {j : Nat} {x : En} (h : j < es.length) : atE (es.set j x) j = x := by simp [atE, h]
theorem atE_set_ne {es : List En} {j i : Nat} {x : En} (h : j ≠ i) : atE (es.set j x) i = atE es i := by simp [atE, List.getElem?_set_ne h]
theorem set_same {es : List En} {j : Nat} (h : j < es.length) : es.set j (atE es j) = es := by
  rw [← atE_get h]
  exact List.set_getElem_self h
theorem entW_inj {x y : En} (hx : 0 ≤ x.1 ∧ x.1 ≤ 4) (hy : 0 ≤ y.1 ∧ y.1 ≤ 4) (h : entW x = entW y) : x = y := by
  obtain ⟨a, l⟩ := x
  obtain ⟨b, m⟩ := y
  simp only at hx hy
  cases l <;> cases m <;> simp [entW] at h ⊢ <;> omega
theorem words_inj {es : List En} {j : Nat} {x : En} (hg : Good es) (hj : j < es.length) (hx : ownB x.1 = true) (h : wordsOf (es.set j x) = wordsOf es) : atE es j = x := by
  have hl : (es.set j x).length = es.length := by simp
  have h1 := words_ent (es := es) hj
  have h2 := words_ent (es := es.set j x) (i := j) (by rw [hl]; exact hj)
  rw [hl, h, h1, atE_set_self hj] at h2
  exact entW_inj (hg j hj) (by simpa [ownB] using hx) (Option.some.inj h2)
theorem words_set_eq {es : List En} {j : Nat} {x : En} (hg : Good es) (hj : j < es.length) (hx : ownB x.1 = true) : decide (wordsOf (es.set j x) = wordsOf es) = (atE es j == x) := by
  by_cases h : atE es j = x
  · subst h
    rw [set_same hj]
    simp
  · have : ¬ wordsOf (es.set j x) = wordsOf es := fun e => h (words_inj hg hj hx e)
    rw [decide_eq_false this]
    symm
    simpa using h
theorem grp_set_ne {es : List En} {j k : Nat} {x : En} (hk : k ≠ j / 4) : grpW (es.set j x) k = grpW es k := by
  have h1 : atE (es.set j x) (4 * k) = atE es (4 * k) := atE_set_ne (by omega)
  have h2 : ((es.set j x).drop (4 * k)).take 4 = (es.drop (4 * k)).take 4 := by
    apply List.ext_getElem?
    intro i
    rw [List.getElem?_take, List.getElem?_take]
    split
    · rw [List.getElem?_drop, List.getElem?_drop, List.getElem?_set_ne (by omega)]
    · rfl
  unfold grpW grpOk
  rw [h1, h2, List.length_set]

theorem own_any (n k : Nat) (w : World) (hn : n ≤ 16) (hk : k ≤ 16) : Calls Try.prog 39 #[.int .i64 n, .int .i64 k] w fun e w' => e = .returned (.int .i64 ((ngr n : Nat) + (k : Int))) ∧ w' = w := by
  have h4 : ngr n ≤ 4 := by unfold ngr; omega
  go_enter Try.func39, Try.ntmps39
  go_wp2_with fail
  refine (groups_any n _ hn).mono ?_
  rintro e w1 ⟨rfl, hw⟩
  rw [hw]
  go_wp2_with fail
  go_ret
  exact ⟨rfl, rfl⟩

/-- What the law TableBack carries: the table, the words that were, the call. -/
structure Bk (W w : World) (p g B : Nat) (es : List En) (A : Option Addr) (ws : List Int) (G ow : Int) (lk : Bool) : Prop where
  tb : Tb w p g es
  sl : SlI w A ws
  fr : ∀ a, A = some a → a.block ≠ g
  k : C3 w B G ow lk
  ne : B ≠ g
  hg : W.heap.size ≤ g
  below : Below W.heap.size W w
theorem Bk.ext {W w w' : World} {p g B : Nat} {es : List En} {A : Option Addr} {ws : List Int} {G ow : Int} {lk : Bool} (h : Bk W w p g B es A ws G ow lk) (hb : Below w.heap.size w w') : Bk W w' p g B es A ws G ow lk :=
  ⟨h.tb.ext hb, h.sl.ext hb, h.fr, h.k.ext hb, h.ne, h.hg, h.below.trans (hb.mono h.below.size)⟩
theorem Bk.grown {W w w' : World} {p g B : Nat} {es es' : List En} {A : Option Addr} {ws : List Int} {G ow : Int} {lk : Bool} (h : Bk W w p g B es A ws G ow lk) (hg : w.grownBy w' (some g)) (hT : Tb w' p g es') : Bk W w' p g B es' A ws G ow lk :=
  ⟨hT, h.sl.grown hg h.fr, h.fr, h.k.grown hg h.ne, h.ne, h.hg, grown_below h.below hg h.hg⟩

end Go.Proofs.Ytnablldaaajhkaa
