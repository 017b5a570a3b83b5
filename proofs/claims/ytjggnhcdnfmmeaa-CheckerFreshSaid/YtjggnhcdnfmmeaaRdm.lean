/- What this text holds: a loop each of whose rounds may leave marks of ranges over functions in the frame: the law. No condition. -/
import Derived.Test.YtjggnhcdnfmmeaaRdf
import Derived.Deep.LoopGhost
namespace Go.Proofs.Ytjggnhcdnfmmeaa
open Go.RowKit

/-- The frame's slots, some of them with other values. -/
def setAll (t : Array Value) (sl : List Nat) (vs : List Value) : Array Value := (sl.zip vs).foldl (fun t (s, v) => t.setIfInBounds s v) t
/-- What a round must hand on: the relation at a smaller number. -/
def HandedM (rel : Nat → List Value → List Nat → World → Prop) (tmps : Array Value) (sl : List Nat) (n : Nat) (a : Act) (w : World) : Prop :=
  ∃ n' vs ds, n' < n ∧ rel n' vs ds w ∧ a = { tmps := setAll tmps sl vs, defers := ds.map markD }

theorem wp_loop_marks {P : Program} {Q : Exit → Act → World → Prop} {tmps : Array Value} {ds0 : List Nat} {w : World} {c : Code} (sl : List Nat) (rel : Nat → List Value → List Nat → World → Prop) (n0 : Nat) (vs0 : List Value)
    (hv : setAll tmps sl vs0 = tmps) (h0 : rel n0 vs0 ds0 w)
    (round : ∀ n vs ds w, rel n vs ds w → ∀ K : Act → World → Prop, (∀ a' w', HandedM rel tmps sl n a' w' → K a' w') → c.wp P (Exit.then K Q) { tmps := setAll tmps sl vs, defers := ds.map markD } w) :
    (Code.loop c).wp P Q { tmps := tmps, defers := ds0.map markD } w := by
  refine wp_loop_ghost (fun n a w => ∃ vs ds, rel n vs ds w ∧ a = { tmps := setAll tmps sl vs, defers := ds.map markD }) n0 ⟨vs0, ds0, h0, by rw [hv]⟩ ?_
  rintro n a w ⟨vs, ds, h, rfl⟩
  exact round n vs ds w h _ (fun a' w' ⟨n', vs', ds', h1, h2, h3⟩ => ⟨n', h1, vs', ds', h2, h3⟩)

end Go.Proofs.Ytjggnhcdnfmmeaa
