/- What this text holds: appends of one int to a row that the call owns. No condition. -/
import Derived.Test.YtkfnjpmigifomaaDoorOwn
namespace Go.Proofs.YtkfnjpmigifomaaDoor
open Go.RowKit

/-- The one cell that an append of one int lays. -/
theorem one_at (w : World) (x : Int) (t : TypeId) : ∀ j u, [Value.int .i64 x][j]? = some u → (w.alloc (.cells #[.int .i64 x] t (0, 0))).cell? ((⟨w.heap.size, 0, none⟩ : Addr).add j) = some u := by
  intro j u hj
  match j, hj with
  | 0, hj => simp at hj; subst hj; simp [Addr.add]
theorem one_one (x : Int) : ∀ u ∈ [Value.int .i64 x], u.oneCell' = true := by intro u hu; simp at hu; subst hu; rfl
theorem own_more {w : World} {base e : Nat} {v : Value} {ys zs : List Int} {x : Int} (h : w.ownsRow base e 1 v (ys.length + 1) (ys.map (Value.int .i64) ++ [.int .i64 x])) (hz : zs = ys ++ [x]) : w.ownsRow base e 1 v zs.length (zs.map (Value.int .i64)) := by
  subst hz
  simpa using h

end Go.Proofs.YtkfnjpmigifomaaDoor
