/- What this text holds: turns of the law CheckerFresh, as they lie in memory. No condition. -/
import Derived.Test.YtjggnhcdnfmmeaaL09H
namespace Go.Proofs.Ytjggnhcdnfmmeaa
open Go.RowKit

/-- A turn: what is done, which granule, an entry. -/
structure Tu where
  d : Int
  g : Int
  o : Int
  l : Bool
def atT (l : List Tu) (i : Nat) : Tu := l[i]?.getD ⟨0, 0, 0, false⟩
/-- A slice of turns that reads as a list. -/
def SlU (w : World) (A : Option Addr) (l : List Tu) : Prop :=
  0 < l.length → ∃ b off, A = some ⟨b, off, none⟩ ∧ b < w.heap.size ∧ ∀ i, i < l.length → w.cell? ⟨b, off + i * 4, none⟩ = some (.int .i64 (atT l i).d) ∧ w.cell? ⟨b, off + i * 4 + 1, none⟩ = some (.int .i64 (atT l i).g) ∧ w.cell? ⟨b, off + i * 4 + 2, none⟩ = some (.int .i64 (atT l i).o) ∧ w.cell? ⟨b, off + i * 4 + 3, none⟩ = some (.bool (atT l i).l)

end Go.Proofs.Ytjggnhcdnfmmeaa
