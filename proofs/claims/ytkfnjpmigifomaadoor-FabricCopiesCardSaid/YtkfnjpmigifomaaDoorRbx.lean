/- What this text holds: a range over a function whose loop variable lies in a box: the law, without the frame written out. No condition. -/
import Derived.Test.YtkfnjpmigifomaaDoorRnd
namespace Go.Proofs.YtkfnjpmigifomaaDoor
open Go.RowKit

/-- The frame of a round: the loop variable's value, and its box. -/
def boxFrame {α : Type} (a : Act) (ps : Array Tmp) (encs : α → Array Value) (sl : Nat) (b : Nat) (x : α) : Act :=
  { tmps := ((ps.zip (encs x)).foldl (fun t (p, v) => t.setIfInBounds p v) a.tmps).setIfInBounds sl (.pointer (some ⟨b, 0, none⟩)), defers := [] }

theorem wpIn_rangeFunc_box {F : Fence} {n : Nat} {P : Program} {α : Type} (B0 sl : Nat) (Box : World → Nat → α → Prop) {g : Operand} {ps : Array Tmp} {assign body : Code} {Q : Exit → Act → World → Prop} {a : Act} {w : World}
    (hBox : ∀ x b W W' row, Box W b x → W.grownBy W' row → (∀ r, row = some r → ∃ o : Obj, W.heap[r]? = some o ∧ o.isCells = false) → Box W' b x)
    (hro : F.round = none) (h1 : 1 ≤ n) {gf : Nat} {lb : Array Value} (hg : a.eval g = .func (.func gf) #[] lb) (hFg : F.fn gf) (eg : ∀ args w, (callFunc gf args).run P w = .ok (.enter gf args) w)
    {encs : α → Array Value} {Kp : World → World → Prop} {S Sp : List α → Prop} {N : Nat} {w0 : World} (hseq : SeqStopsK F (n - 1) P gf lb encs Kp S Sp N w0)
    (hKt : ∀ {A B C : World}, Kp A B → Kp B C → Kp A C) (hKb : ∀ (W : World) (l : Nat) (o o' : Obj), w.heap.size ≤ l → W.heap[l]? = some o → o.isCells = false → o.isWalk = false → Kp W (W.putObj l o')) (hb0 : Below w0.heap.size w0 w) (hps : ∀ x, (encs x).size = ps.size)
    (I : List α → World → Prop) (Ix : Code → List α → World → Prop) (hI : OwnFrom w.heap.size I) (hIx : ∀ c, OwnFrom w.heap.size (Ix c)) (h0 : I [] w)
    (hassign : ∀ (l : Nat) (pre : List α) (x : α) (W : World) (K : Act → World → Prop), I pre W → (∀ b W', B0 ≤ b → KeepsFrom w.heap.size W W' → Kp W W' → I pre W' → Box W' b x → K (boxFrame a ps encs sl b x) W') →
      assign.wpIn (F.inRound l) (n - 1 - 1) P (Exit.then K (fun _ _ _ => False)) { tmps := (ps.zip (encs x)).foldl (fun t (p, v) => t.setIfInBounds p v) a.tmps, defers := [] } W)
    (hbody : ∀ (l : Nat) (pre : List α) (x : α) (b : Nat) (W : World), w.heap.size ≤ l → (∃ r, W.heap[l]? = some (.loop r)) → I pre W → B0 ≤ b → Box W b x → pre.length < N → body.wpIn (F.inRound l) (n - 1 - 1) P (ownPostG w.heap.size Kp I Ix (pre ++ [x]) W) (boxFrame a ps encs sl b x) W)
    (hdone : ∀ (D : Nat) (xs : List α) (W : World), w.heap.size ≤ D → S xs → I xs W → W.heap[D]? = some (.deferred (some [])) → Q .normal { a with defers := { target := .collected D, args := #[] } :: a.defers } W)
    (hstop : ∀ (D : Nat) (c : Code) (pre : List α) (W : World), w.heap.size ≤ D → Sp pre → Ix c pre W → W.heap[D]? = some (.deferred (some [])) → c.wpIn F n P Q { a with defers := { target := .collected D, args := #[] } :: a.defers } W) :
    (Code.rangeFunc g ps assign body).wpIn F n P Q a w :=
  wpIn_rangeFunc_ownH hro h1 hg hFg eg hseq hKt hKb hb0 hps I Ix hI hIx h0 (fun x a' W => ∃ b, B0 ≤ b ∧ Box W b x ∧ a' = boxFrame a ps encs sl b x)
    (fun x _ _ _ _ _ hs hg hr => by
      obtain ⟨b, h1, h2, h3⟩ := hs
      exact ⟨b, h1, hBox x b _ _ _ h2 hg (fun r e => (hr r e).2), h3⟩)
    (fun l pre x W K hi hK => hassign l pre x W K hi (fun b W' h1 h2 h3 h4 h5 => hK _ _ h2 h3 h4 ⟨b, h1, h5, rfl⟩))
    (fun l pre x a' W hl hr hi hx hlen => by
      obtain ⟨b, h1, h2, rfl⟩ := hx
      exact hbody l pre x b W hl hr hi h1 h2 hlen)
    hdone hstop

end Go.Proofs.YtkfnjpmigifomaaDoor
