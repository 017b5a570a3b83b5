/- What this text holds: the loops of a function's body, by their number. No condition. -/
import Derived.Test.YtkobeajbiendlaaDoorProg
import Derived.WalkKit
namespace Go.Proofs.YtkobeajbiendlaaDoor

/-- The bodies of the loops, in the text's order. -/
def loopsOf : Code → List Code
  | .loop c => c :: loopsOf c
  | .seq a b => loopsOf a ++ loopsOf b
  | .block _ c => loopsOf c
  | .scope c => loopsOf c
  | .cond _ a b => loopsOf a ++ loopsOf b
  | _ => []
noncomputable def lp (f : Func) (i : Nat) : Code := (f.body.bind fun c => (loopsOf c)[i]?).getD .skip
/-- The regions, by their numbers. -/
def regOf (n : Nat) : Code → Option Code
  | .region id ops b => if id = n then some (.region id ops b) else none
  | .loop c => regOf n c
  | .seq a b => match regOf n a with
    | some c => some c
    | none => regOf n b
  | .block _ c => regOf n c
  | .scope c => regOf n c
  | .cond _ a b => match regOf n a with
    | some c => some c
    | none => regOf n b
  | _ => none
noncomputable def rg (f : Func) (n : Nat) : Code := (f.body.bind fun c => regOf n c).getD .skip

end Go.Proofs.YtkobeajbiendlaaDoor
