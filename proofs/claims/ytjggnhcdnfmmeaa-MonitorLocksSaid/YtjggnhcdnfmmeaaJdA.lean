/- What this text holds: what a call of the monitor is judged to, in plain words. No condition. -/
import Derived.Test.YtjggnhcdnfmmeaaOwn2
import Derived.Test.YtjggnhcdnfmmeaaRnd
namespace Go.Proofs.Ytjggnhcdnfmmeaa
open Go.RowKit

/-- What a call of the monitor answers: who has the granule then, whether it is scrubbed, and the code. -/
def judge (call wo o tw : Int) : Int × Bool × Int :=
  if wo < 0 ∨ 3 < wo ∨ o < 0 ∨ 4 < o then (0, false, 10)
  else if call = 1 then (if wo ≠ 0 then (0, false, 18) else if o ≠ 0 then (0, false, 16) else if tw < 1 ∨ 3 < tw then (0, false, 1) else (tw, true, 0))
  else if call = 2 then (if o = 0 then (0, false, 16) else if wo ≠ 0 ∧ wo ≠ o then (0, false, 18) else (0, true, 0))
  else if call = 3 then (if wo = 0 ∨ wo ≠ o then (0, false, 18) else if tw < 1 ∨ 3 < tw ∨ tw = o then (0, false, 1) else (tw, true, 0))
  else if call = 4 then (if o = 4 then (0, false, 16) else if wo ≠ o then (0, false, 18) else (4, false, 0))
  else (0, false, 15)

end Go.Proofs.Ytjggnhcdnfmmeaa
