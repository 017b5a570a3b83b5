/- What this text holds: a function whose loop holds a range over a function: its frame bears one mark a round; how it is left. No condition. -/
import Derived.Test.YtjggnhcdnfmmeaaRnd
import Derived.RangeFuncBound
import Derived.RangeFuncCalls
import Derived.RangeFuncLeaves
namespace Go.Proofs.Ytjggnhcdnfmmeaa
open Go.RowKit

/-- A mark. -/
def markD (D : Nat) : Deferred := { target := .collected D, args := #[] }
/-- All marks are shut, one behind the other; what they keep holds at the end. -/
theorem leaves_all {F : Fence} {n : Nat} {P : Program} {fn : Func} {tmps : Array Value} {R : Ending → World → Prop} (J : World → Prop) (ds0 : List Nat)
    (hJ : ∀ w D, D ∈ ds0 → w.heap[D]? = some (.deferred (some [])) → J w → J (w.putObj D (.deferred none))) (hend : ∀ w, J w → LeavesInM F n P fn tmps R [] .returning w) :
    ∀ (ds : List Nat) (w : World), ds.Nodup → (∀ D ∈ ds, D ∈ ds0) → (∀ D ∈ ds, w.heap[D]? = some (.deferred (some []))) → J w → LeavesInM F n P fn tmps R (ds.map markD) .returning w
  | [], w, _, _, _, h => hend w h
  | D :: ds, w, hn, h0, hd, h => by
    have hD := hd D List.mem_cons_self
    refine ⟨by simp, .inl ⟨D, _, rfl, run_takeDeferred hD, ?_⟩⟩
    obtain ⟨h1, h2⟩ := List.nodup_cons.1 hn
    refine leaves_all J ds0 hJ hend ds _ h2 (fun E hE => h0 E (List.mem_cons_of_mem _ hE)) (fun E hE => ?_) (hJ w D (h0 D List.mem_cons_self) hD h)
    rw [World.putObj_heap_other (fun e => h1 (by first | exact e ▸ hE | (rw [← e]; exact hE) | (rw [e]; exact hE)))]
    exact hd E (List.mem_cons_of_mem _ hE)

end Go.Proofs.Ytjggnhcdnfmmeaa
