/- What this text holds: the boxes of the law FabricOnce beside a fabric: a list of notes. No condition. -/
import Derived.Test.YtkfnjpmigifomaaDoorLaw05
import Derived.Test.YtkfnjpmigifomaaDoorLanW
namespace Go.Proofs.YtkfnjpmigifomaaDoor
open Go.RowKit

/-- How a row of notes stands. -/
theorem rowN_val {w : World} {base : Nat} {v : Value} {xs : List Nt} (h : w.ownsRow base 74 9 v xs.length (flatN xs)) : ∃ A cap, v = .slice A xs.length cap ∧ SlN w A xs ∧ xs.length ≤ cap ∧ (A = none → cap = 0) ∧ ∀ a, A = some a → ∃ g, a = ⟨g, 0, none⟩ := by
  rcases h.2 with ⟨rfl, h0⟩ | ⟨g, cap, cur, rfl, hb, hg, hc1, hc2, hc3, hc4⟩
  · have : xs = [] := List.eq_nil_of_length_eq_zero h0
    subst this
    exact ⟨none, 0, rfl, fun h => absurd h (by simp), Nat.le_refl _, fun _ => rfl, fun a ha => by cases ha⟩
  · refine ⟨_, cap, rfl, fun _ => ⟨g, 0, rfl, (Array.getElem?_eq_some_iff.1 hg).1, fun i hi j u hu => ?_⟩, hc1, (fun e => by cases e), fun a ha => ⟨g, (Option.some.inj ha).symm⟩⟩
    have hj : j < 9 := (List.getElem?_eq_some_iff.1 hu).1
    have h1 := flatN_at xs i j hi hj
    rw [hu, ← hc4, List.getElem?_take, if_pos (by omega)] at h1
    unfold World.cell?
    rw [hg, Nat.zero_add]
    simpa using h1
theorem SlN.full {w : World} {A : Option Addr} {ys : List Nt} (h : SlN w A ys) : ∀ ad, A = some ad → ∀ j u, (flatN ys)[j]? = some u → w.cell? (ad.add j) = some u := fun ad e => by
  subst e
  exact h.cells
theorem SlN.none0 {w : World} {A : Option Addr} {ys : List Nt} {c : Nat} (h : SlN w A ys) (hc : A = none → c = 0) : A = none → ys.length = 0 ∧ c = 0 := fun e => by
  refine ⟨?_, hc e⟩
  cases ys with
  | nil => rfl
  | cons y ys =>
    obtain ⟨b, off, h, _⟩ := h (by simp)
    rw [e] at h
    cases h
theorem SlN.take {w : World} {A : Option Addr} {xs : List Nt} (h : SlN w A xs) (j : Nat) : SlN w A (xs.take j) := fun h0 => by
  obtain ⟨b, off, hA, hb, hc⟩ := h (by simp at h0; omega)
  refine ⟨b, off, hA, hb, fun i hi k u hu => hc i (by simp at hi; omega) k u ?_⟩
  have hij : i < j := by simp at hi; omega
  simpa [atN, List.getElem?_take, hij] using hu
theorem SlN.drop {w : World} {b off : Nat} {xs : List Nt} (h : SlN w (some ⟨b, off, none⟩) xs) (j : Nat) : SlN w (some ⟨b, off + j * 9, none⟩) (xs.drop j) := fun h0 => by
  obtain ⟨b', off', hA, hb, hc⟩ := h (by simp at h0; omega)
  cases hA
  refine ⟨b, _, rfl, hb, fun i hi k u hu => ?_⟩
  have := hc (j + i) (by simp at hi; omega) k u (by simpa [atN, List.getElem?_drop] using hu)
  rw [show off + j * 9 + i * 9 + k = off + (j + i) * 9 + k by omega]
  exact this
theorem below_row {W w w' : World} {base : Nat} {e size n : Nat} {v : Value} {xs : List Value} (hb : Below W.heap.size W w) (hB : W.heap.size ≤ base) (ho : w.ownsRow base e size v n xs) (hg : w.grownBy w' v.ownBlock) : Below W.heap.size W w' :=
  hb.grown hg hb.size (fun k hk => Nat.le_trans hB (ho.lt k hk).1)
/-- The law's boxes: the result's, and the list of what should be there. -/
structure Ob (W w : World) (B p R T : Nat) (c : Cfg) (n : Nat) (P : Nat → Nat) (V : Nat → Value) (G : Nat → List Nt) (tv : Value) (ths : List Nt) : Prop where
  fw : Fw W w B p c n P V G
  rs : w.heap[R]? = some (.cells #[.bool false] 4 (0, 0))
  bx : w.heap[T]? = some (.cells #[tv] 69 (0, 0))
  row : w.ownsRow B 74 9 tv ths.length (flatN ths)
  hR : W.heap.size ≤ R ∧ R < B
  hT : B ≤ T ∧ T ≠ p
  tF : ¬ FS n P V T
  ow : ∀ g, tv.ownBlock = some g → g ≠ p ∧ g ≠ T ∧ ¬ FS n P V g
section
variable {W w w' w2 : World} {B p R T : Nat} {c : Cfg} {n : Nat} {P : Nat → Nat} {V V' : Nat → Value} {G G' : Nat → List Nt} {tv tv' : Value} {ths ths' : List Nt}
/-- The blocks of all this. -/
def OK (p R T n : Nat) (P : Nat → Nat) (V : Nat → Value) (tv : Value) (k : Nat) : Prop := k = p ∨ k = R ∨ k = T ∨ FS n P V k ∨ tv.ownBlock = some k
theorem Ob.lt (h : Ob W w B p R T c n P V G tv ths) {k : Nat} (hk : OK p R T n P V tv k) : k < w.heap.size := by
  rcases hk with rfl | rfl | rfl | hk | hk
  · exact h.fw.fa.lt
  · exact lt_of h.rs
  · exact lt_of h.bx
  · exact (h.fw.fa.fs hk).2.1
  · exact (h.row.lt k hk).2
theorem Ob.keep (h : Ob W w B p R T c n P V G tv ths) (hs : w.heap.size ≤ w'.heap.size) (hk : ∀ k, OK p R T n P V tv k → w'.heap[k]? = w.heap[k]?) (hb : Below W.heap.size W w') : Ob W w' B p R T c n P V G tv ths :=
  ⟨⟨h.fw.fa.keep hs (hk _ (.inl rfl)) (fun k h1 => hk k (.inr (.inr (.inr (.inl h1))))), hb, h.fw.hB, Nat.le_trans h.fw.lo hs⟩, (hk _ (.inr (.inl rfl))).trans h.rs, (hk _ (.inr (.inr (.inl rfl)))).trans h.bx, row_keep h.row (fun g hg => hk g (.inr (.inr (.inr (.inr hg))))), h.hR, h.hT, h.tF, h.ow⟩
theorem Ob.ext (h : Ob W w B p R T c n P V G tv ths) (hb : Below w.heap.size w w') : Ob W w' B p R T c n P V G tv ths :=
  h.keep hb.size (fun k hk => hb.block k (h.lt hk)) (ext_trans h.fw.be hb)
theorem Ob.turn (h : Ob W w B p R T c n P V G tv ths) (h1 : Fw W w' B p c n P V' G') (h2 : Ft (FS n P V) w w') (h3 : ∀ q, FS n P V' q → FS n P V q ∨ w.heap.size ≤ q) : Ob W w' B p R T c n P V' G' tv ths := by
  have hTl := lt_of h.bx
  have hol := fun g hg => (h.row.lt g hg).2
  refine ⟨h1, (h2.block R (lt_of h.rs) (fun hs => by have := (h.fw.fa.fs hs).1; have := h.hR; omega)).trans h.rs, (h2.block T hTl h.tF).trans h.bx, row_keep h.row (fun g hg => h2.block g (hol g hg) (h.ow g hg).2.2), h.hR, h.hT, fun hs => ?_, fun g hg => ⟨(h.ow g hg).1, (h.ow g hg).2.1, fun hs => ?_⟩⟩
  · rcases h3 T hs with h4 | h4
    · exact h.tF h4
    · omega
  · rcases h3 g hs with h4 | h4
    · exact (h.ow g hg).2.2 h4
    · have := hol g hg; omega
theorem Ob.new (h : Ob W w B p R T c n P V G tv ths) {g : Nat} (hg : w.heap.size ≤ g) : g ≠ p ∧ g ≠ T ∧ ¬ FS n P V g := by
  have h1 := h.fw.fa.lt
  have h2 := lt_of h.bx
  refine ⟨by omega, by omega, fun hs => ?_⟩
  have := (h.fw.fa.fs hs).2.1
  omega
/-- The list is laid anew. -/
theorem Ob.put (h : Ob W w B p R T c n P V G tv ths) (hg : w.grownBy w2 tv.ownBlock) (ho : w2.ownsRow B 74 9 tv' ths'.length (flatN ths')) (hf : ∀ g, tv'.ownBlock = some g → g ≠ p ∧ g ≠ T ∧ ¬ FS n P V g) :
    Ob W (w2.setCell ⟨T, 0, none⟩ tv') B p R T c n P V G tv' ths' := by
  have hTl := lt_of h.bx
  have hk : ∀ k, k < w.heap.size → k ≠ T → (∀ g, tv.ownBlock = some g → g ≠ k) → (w2.setCell ⟨T, 0, none⟩ tv').heap[k]? = w.heap[k]? := fun k h1 h2 h3 =>
    (Below.heap_setCell _ _ _ _ (by simpa using h2)).trans (hg.block k h1 (fun e => h3 k e.symm rfl))
  have hpl := h.fw.fa.lt
  have hRl := lt_of h.rs
  have hR := h.hR
  have hT := h.hT
  have hbe := below_row h.fw.be h.fw.hB h.row hg
  have hW := h.fw.hB
  have hbx2 : w2.heap[T]? = some (.cells #[tv] 69 (0, 0)) := (hg.block T hTl (fun e => (h.ow T e.symm).2.1 rfl)).trans h.bx
  refine ⟨⟨h.fw.fa.keep (by have := hg.size; simpa using this) (hk _ hpl (Ne.symm hT.2) (fun g hg => (h.ow g hg).1)) (fun k h1 => hk _ (h.fw.fa.fs h1).2.1 (fun e => h.tF (e ▸ h1)) (fun g hg e => (h.ow g hg).2.2 (e ▸ h1))), hbe.setCell (p := ⟨T, 0, none⟩) (by simp; omega) _, h.fw.hB, by have := hg.size; have := h.fw.lo; simp; omega⟩,
    (hk _ hRl (by omega) (fun g hg => by have := (h.row.lt g hg).1; omega)).trans h.rs, set_of hbx2, row_keep ho (fun g hg => Below.heap_setCell _ _ _ _ (by simpa using (hf g hg).2.1)), h.hR, h.hT, h.tF, hf⟩
theorem grown_refl (w : World) (r : Option Nat) : w.grownBy w r := ⟨rfl, rfl, rfl, Nat.le_refl _, fun _ _ _ => rfl⟩
end
/-- Where a note stands among the first k. -/
def AtK (ths : List Nt) (y : Nt) (k : Nat) (a : Int) : Prop := (a = -1 ∧ ∀ j, j < k → atN ths j ≠ y) ∨ ∃ m : Nat, a = m ∧ m < k ∧ atN ths m = y

/-- Which note of n the number t names. -/
def which5 (t : Int) (n : Nat) : Nat := (if Int.tmod t n < 0 then Int.tmod t n + n else Int.tmod t n).toNat
theorem which5_of (t : Int) (n : Nat) (hn : 0 < n) : which5 t n < n ∧ ((Int.tmod t n < 0 ∧ Int.tmod t n + n = which5 t n) ∨ (0 ≤ Int.tmod t n ∧ Int.tmod t n = which5 t n)) := by
  have h1 : -(n : Int) < Int.tmod t n := Int.lt_tmod_of_pos t (by omega)
  have h2 : Int.tmod t n < n := Int.tmod_lt_of_pos t (by omega)
  unfold which5
  split <;> omega
theorem AtK.zero (ths : List Nt) (y : Nt) : AtK ths y 0 (-1) := .inl ⟨rfl, fun j hj => by omega⟩
theorem iseq_nil (w : World) (f : Fn) (a b : Array Value) : (binOp .eql 79 (.func f a b) .nilFunc).run Tryd.prog w = .ok (.bool false) w := by
  have h : ∀ d : Nat, (Op.equalIn (d + 1) 79 (.func f a b) .nilFunc).run Tryd.prog w = .ok false w := fun d => by
    simp [Op.equalIn, run_underlying Tryd.underlying79]
  simp only [binOp]
  simp [Op.equal, Op.maxDepth, h 9999]
theorem mem_next (ths : List Nt) (x : Nt) {k : Nat} (hk : k < ths.length) : decide (x ∈ ths.take (k + 1)) = (decide (x ∈ ths.take k) || decide (atN ths k = x)) := by
  rw [take_next ths hk, Bool.eq_iff_iff]
  simp only [Bool.or_eq_true, decide_eq_true_eq, List.mem_append, List.mem_singleton]
  exact or_congr Iff.rfl eq_comm
theorem eqN5 (y x : Nt) : ∀ wx, (binOp .eql 74 y.out x.out).run Tryd.prog wx = .ok (.bool (decide (y = x))) wx := fun wx => eqN wx y x

end Go.Proofs.YtkfnjpmigifomaaDoor
