/-
  NARROWER THAN 'FOR EVERY INPUT', by the rows' own cells (each row's printed sentence says how): PlaceChecks: laid · PlaceFinds: laid · PlaceLines: laid · PlaceBack: laid · MoesiProbes: laid · MoesiGrants: laid · MoesiFits: laid · MoesiKeeps: laid · MoesiTwice: laid · MoesiStores: laid.
  DERIVED. THE GIVEN ROWS OF THIS SEAT. 10 by the template 'for every input the law returns true; each argument reads behind the call as it read before'; 0 by the template 'total and deterministic' (their statements: YtnbdaffbmpbfjaaDoorTotals.lean).
  GIVEN WITH THE SEED: the statements are not yours to turn. If you find one false, say at which input.
  Laid BY PROGRAM, IN A SANDBOX (cutbox-rows.mjs): the forced cells as the released guide's own fill.sh prints them over the translation 1ea4a9a05133245d… (all of the seat's roots in one cut). By AI agents, Wed Nov 11 2026. No macro, syntax, notation, axiom, sorry.
-/
import Derived.Test.YtnbdaffbmpbfjaaDoorChecked
import GoSem.Claim
import GoSem.ClaimJoined
import GoSem.ClaimMapViews
import Derived.JoinedTies
import Derived.KernelRfl
namespace Go.Proofs.YtnbdaffbmpbfjaaDoor
/- THE CELL 'sum', in the pinned program and in every row, IS THE sha256 OF THE DUMP (.gsa) THAT YtnbdaffbmpbfjaaDoorProg.lean LOADS. Nothing in Lean hashes anything: it is a label: what it is worth is what the hold of that sum in a sandbox is worth. -/
noncomputable def Tryd.pinned : Pinned := { name := "ytnbdaffbmpbfjaadoor", sum := "1ea4a9a05133245deaae5b2cab47b32049f2eb672a526fa289c89fdf93f7e50b", checked := Tryd.checked }
namespace Rows
def none {H : Type} : Left H := { results := [], args := [] }

/- WHAT THE LISTED PACKAGE-LEVEL VARIABLES READ AS WHEN THE CALL BEGINS. Each datum BY PROGRAM (the guide's laid-datum.mjs) off the statement by which the dump's own 'gosem.cut.vars' lays the variable. In a bare row this is a premise. The card (YtnbdaffbmpbfjaaDoorCards.lean) ties it to the program's text. -/
def laid_donjon_place_limits {H : Type} : DataW H := .agg [.lit (.int .i64 4), .lit (.int .i64 16), .lit (.int .i64 8), .lit (.int .i64 4), .lit (.int .i64 16), .lit (.int .i64 8), .lit (.int .i64 4)]
def laid_donjon_moesi_rows {H : Type} : DataW H := .agg [.agg [.lit (.string [73]), .lit (.bool false), .lit (.bool false), .lit (.bool false), .lit (.bool false), .lit (.int .i64 0), .lit (.int .i64 0), .lit (.int .i64 0)], .agg [.lit (.string [83]), .lit (.bool true), .lit (.bool false), .lit (.bool false), .lit (.bool false), .lit (.int .i64 0), .lit (.int .i64 1), .lit (.int .i64 0)], .agg [.lit (.string [69]), .lit (.bool true), .lit (.bool true), .lit (.bool false), .lit (.bool true), .lit (.int .i64 4), .lit (.int .i64 1), .lit (.int .i64 0)], .agg [.lit (.string [79]), .lit (.bool true), .lit (.bool false), .lit (.bool true), .lit (.bool true), .lit (.int .i64 0), .lit (.int .i64 3), .lit (.int .i64 0)], .agg [.lit (.string [77]), .lit (.bool true), .lit (.bool true), .lit (.bool true), .lit (.bool true), .lit (.int .i64 4), .lit (.int .i64 3), .lit (.int .i64 0)]]

/-- 'donjonlaw01.PlaceChecks': WHATEVER THE INPUT: true; the input reads as it did. -/
def placeChecksSpec : ChangeSpec := { name := "placeChecks", fn := fun _ => fun
  | [d] => { results := [.lit (.bool true)], args := [d] }
  | _ => none }
def placeChecksRow : OpenClaim := { program := "ytnbdaffbmpbfjaadoor", sum := "1ea4a9a05133245deaae5b2cab47b32049f2eb672a526fa289c89fdf93f7e50b", func := "donjon/donjonlaw01.PlaceChecks", spec := "placeChecks", named := ["donjon/place.limits"], apart := false, laid := [("donjon/place.limits", laid_donjon_place_limits)] }
def PlaceChecksSaid : Prop := placeChecksRow.holds Tryd.pinned (OpenSpec.ofChange placeChecksSpec)

/-- ITS FALSE NEIGHBOUR: 'it returns false'. Refute it at one input. -/
def placeChecksWrong : ChangeSpec := { name := "placeChecks", fn := fun _ => fun
  | [d] => { results := [.lit (.bool false)], args := [d] }
  | _ => none }
def PlaceChecksWrongFalsely : Prop := placeChecksRow.holds Tryd.pinned (OpenSpec.ofChange placeChecksWrong)

/-- 'donjonlaw01.PlaceFinds': WHATEVER THE INPUT: true; the input reads as it did. -/
def placeFindsSpec : ChangeSpec := { name := "placeFinds", fn := fun _ => fun
  | [d1, d2, d3] => { results := [.lit (.bool true)], args := [d1, d2, d3] }
  | _ => none }
def placeFindsRow : OpenClaim := { program := "ytnbdaffbmpbfjaadoor", sum := "1ea4a9a05133245deaae5b2cab47b32049f2eb672a526fa289c89fdf93f7e50b", func := "donjon/donjonlaw01.PlaceFinds", spec := "placeFinds", named := ["donjon/place.limits"], apart := false, laid := [("donjon/place.limits", laid_donjon_place_limits)] }
def PlaceFindsSaid : Prop := placeFindsRow.holds Tryd.pinned (OpenSpec.ofChange placeFindsSpec)

/-- ITS FALSE NEIGHBOUR: 'it returns false'. Refute it at one input. -/
def placeFindsWrong : ChangeSpec := { name := "placeFinds", fn := fun _ => fun
  | [d1, d2, d3] => { results := [.lit (.bool false)], args := [d1, d2, d3] }
  | _ => none }
def PlaceFindsWrongFalsely : Prop := placeFindsRow.holds Tryd.pinned (OpenSpec.ofChange placeFindsWrong)

/-- 'donjonlaw01.PlaceLines': WHATEVER THE INPUT: true; the input reads as it did. -/
def placeLinesSpec : ChangeSpec := { name := "placeLines", fn := fun _ => fun
  | [d1, d2] => { results := [.lit (.bool true)], args := [d1, d2] }
  | _ => none }
def placeLinesRow : OpenClaim := { program := "ytnbdaffbmpbfjaadoor", sum := "1ea4a9a05133245deaae5b2cab47b32049f2eb672a526fa289c89fdf93f7e50b", func := "donjon/donjonlaw01.PlaceLines", spec := "placeLines", unfollowed := true, recurses := true, named := ["donjon/place.limits"], apart := false, laid := [("donjon/place.limits", laid_donjon_place_limits)] }
def PlaceLinesSaid : Prop := placeLinesRow.holds Tryd.pinned (OpenSpec.ofChange placeLinesSpec)

/-- ITS FALSE NEIGHBOUR: 'it returns false'. Refute it at one input. -/
def placeLinesWrong : ChangeSpec := { name := "placeLines", fn := fun _ => fun
  | [d1, d2] => { results := [.lit (.bool false)], args := [d1, d2] }
  | _ => none }
def PlaceLinesWrongFalsely : Prop := placeLinesRow.holds Tryd.pinned (OpenSpec.ofChange placeLinesWrong)

/-- 'donjonlaw01.PlaceBack': WHATEVER THE INPUT: true; the input reads as it did. -/
def placeBackSpec : ChangeSpec := { name := "placeBack", fn := fun _ => fun
  | [d] => { results := [.lit (.bool true)], args := [d] }
  | _ => none }
def placeBackRow : OpenClaim := { program := "ytnbdaffbmpbfjaadoor", sum := "1ea4a9a05133245deaae5b2cab47b32049f2eb672a526fa289c89fdf93f7e50b", func := "donjon/donjonlaw01.PlaceBack", spec := "placeBack", unfollowed := true, recurses := true, named := ["donjon/place.limits"], apart := false, laid := [("donjon/place.limits", laid_donjon_place_limits)] }
def PlaceBackSaid : Prop := placeBackRow.holds Tryd.pinned (OpenSpec.ofChange placeBackSpec)

/-- ITS FALSE NEIGHBOUR: 'it returns false'. Refute it at one input. -/
def placeBackWrong : ChangeSpec := { name := "placeBack", fn := fun _ => fun
  | [d] => { results := [.lit (.bool false)], args := [d] }
  | _ => none }
def PlaceBackWrongFalsely : Prop := placeBackRow.holds Tryd.pinned (OpenSpec.ofChange placeBackWrong)

/-- 'donjonlaw06.MoesiProbes': WHATEVER THE INPUT: true; the input reads as it did. -/
def moesiProbesSpec : ChangeSpec := { name := "moesiProbes", fn := fun _ => fun
  | [d1, d2] => { results := [.lit (.bool true)], args := [d1, d2] }
  | _ => none }
def moesiProbesRow : OpenClaim := { program := "ytnbdaffbmpbfjaadoor", sum := "1ea4a9a05133245deaae5b2cab47b32049f2eb672a526fa289c89fdf93f7e50b", func := "donjon/donjonlaw06.MoesiProbes", spec := "moesiProbes", named := ["donjon/moesi.rows"], apart := false, laid := [("donjon/moesi.rows", laid_donjon_moesi_rows)] }
def MoesiProbesSaid : Prop := moesiProbesRow.holds Tryd.pinned (OpenSpec.ofChange moesiProbesSpec)

/-- ITS FALSE NEIGHBOUR: 'it returns false'. Refute it at one input. -/
def moesiProbesWrong : ChangeSpec := { name := "moesiProbes", fn := fun _ => fun
  | [d1, d2] => { results := [.lit (.bool false)], args := [d1, d2] }
  | _ => none }
def MoesiProbesWrongFalsely : Prop := moesiProbesRow.holds Tryd.pinned (OpenSpec.ofChange moesiProbesWrong)

/-- 'donjonlaw06.MoesiGrants': WHATEVER THE INPUT: true; the input reads as it did. -/
def moesiGrantsSpec : ChangeSpec := { name := "moesiGrants", fn := fun _ => fun
  | [d1, d2] => { results := [.lit (.bool true)], args := [d1, d2] }
  | _ => none }
def moesiGrantsRow : OpenClaim := { program := "ytnbdaffbmpbfjaadoor", sum := "1ea4a9a05133245deaae5b2cab47b32049f2eb672a526fa289c89fdf93f7e50b", func := "donjon/donjonlaw06.MoesiGrants", spec := "moesiGrants", named := ["donjon/moesi.rows"], apart := false, laid := [("donjon/moesi.rows", laid_donjon_moesi_rows)] }
def MoesiGrantsSaid : Prop := moesiGrantsRow.holds Tryd.pinned (OpenSpec.ofChange moesiGrantsSpec)

/-- ITS FALSE NEIGHBOUR: 'it returns false'. Refute it at one input. -/
def moesiGrantsWrong : ChangeSpec := { name := "moesiGrants", fn := fun _ => fun
  | [d1, d2] => { results := [.lit (.bool false)], args := [d1, d2] }
  | _ => none }
def MoesiGrantsWrongFalsely : Prop := moesiGrantsRow.holds Tryd.pinned (OpenSpec.ofChange moesiGrantsWrong)

/-- 'donjonlaw06.MoesiFits': WHATEVER THE INPUT: true; the input reads as it did. -/
def moesiFitsSpec : ChangeSpec := { name := "moesiFits", fn := fun _ => fun
  | [d1, d2] => { results := [.lit (.bool true)], args := [d1, d2] }
  | _ => none }
def moesiFitsRow : OpenClaim := { program := "ytnbdaffbmpbfjaadoor", sum := "1ea4a9a05133245deaae5b2cab47b32049f2eb672a526fa289c89fdf93f7e50b", func := "donjon/donjonlaw06.MoesiFits", spec := "moesiFits", named := ["donjon/moesi.rows"], apart := false, laid := [("donjon/moesi.rows", laid_donjon_moesi_rows)] }
def MoesiFitsSaid : Prop := moesiFitsRow.holds Tryd.pinned (OpenSpec.ofChange moesiFitsSpec)

/-- ITS FALSE NEIGHBOUR: 'it returns false'. Refute it at one input. -/
def moesiFitsWrong : ChangeSpec := { name := "moesiFits", fn := fun _ => fun
  | [d1, d2] => { results := [.lit (.bool false)], args := [d1, d2] }
  | _ => none }
def MoesiFitsWrongFalsely : Prop := moesiFitsRow.holds Tryd.pinned (OpenSpec.ofChange moesiFitsWrong)

/-- 'donjonlaw06.MoesiKeeps': WHATEVER THE INPUT: true; the input reads as it did. -/
def moesiKeepsSpec : ChangeSpec := { name := "moesiKeeps", fn := fun _ => fun
  | [d1, d2, d3] => { results := [.lit (.bool true)], args := [d1, d2, d3] }
  | _ => none }
def moesiKeepsRow : OpenClaim := { program := "ytnbdaffbmpbfjaadoor", sum := "1ea4a9a05133245deaae5b2cab47b32049f2eb672a526fa289c89fdf93f7e50b", func := "donjon/donjonlaw06.MoesiKeeps", spec := "moesiKeeps", named := ["donjon/moesi.rows"], apart := false, laid := [("donjon/moesi.rows", laid_donjon_moesi_rows)] }
def MoesiKeepsSaid : Prop := moesiKeepsRow.holds Tryd.pinned (OpenSpec.ofChange moesiKeepsSpec)

/-- ITS FALSE NEIGHBOUR: 'it returns false'. Refute it at one input. -/
def moesiKeepsWrong : ChangeSpec := { name := "moesiKeeps", fn := fun _ => fun
  | [d1, d2, d3] => { results := [.lit (.bool false)], args := [d1, d2, d3] }
  | _ => none }
def MoesiKeepsWrongFalsely : Prop := moesiKeepsRow.holds Tryd.pinned (OpenSpec.ofChange moesiKeepsWrong)

/-- 'donjonlaw06.MoesiTwice': WHATEVER THE INPUT: true; the input reads as it did. -/
def moesiTwiceSpec : ChangeSpec := { name := "moesiTwice", fn := fun _ => fun
  | [d] => { results := [.lit (.bool true)], args := [d] }
  | _ => none }
def moesiTwiceRow : OpenClaim := { program := "ytnbdaffbmpbfjaadoor", sum := "1ea4a9a05133245deaae5b2cab47b32049f2eb672a526fa289c89fdf93f7e50b", func := "donjon/donjonlaw06.MoesiTwice", spec := "moesiTwice", named := ["donjon/moesi.rows"], apart := false, laid := [("donjon/moesi.rows", laid_donjon_moesi_rows)] }
def MoesiTwiceSaid : Prop := moesiTwiceRow.holds Tryd.pinned (OpenSpec.ofChange moesiTwiceSpec)

/-- ITS FALSE NEIGHBOUR: 'it returns false'. Refute it at one input. -/
def moesiTwiceWrong : ChangeSpec := { name := "moesiTwice", fn := fun _ => fun
  | [d] => { results := [.lit (.bool false)], args := [d] }
  | _ => none }
def MoesiTwiceWrongFalsely : Prop := moesiTwiceRow.holds Tryd.pinned (OpenSpec.ofChange moesiTwiceWrong)

/-- 'donjonlaw06.MoesiStores': WHATEVER THE INPUT: true; the input reads as it did. -/
def moesiStoresSpec : ChangeSpec := { name := "moesiStores", fn := fun _ => fun
  | [d1, d2] => { results := [.lit (.bool true)], args := [d1, d2] }
  | _ => none }
def moesiStoresRow : OpenClaim := { program := "ytnbdaffbmpbfjaadoor", sum := "1ea4a9a05133245deaae5b2cab47b32049f2eb672a526fa289c89fdf93f7e50b", func := "donjon/donjonlaw06.MoesiStores", spec := "moesiStores", named := ["donjon/moesi.rows"], apart := false, laid := [("donjon/moesi.rows", laid_donjon_moesi_rows)] }
def MoesiStoresSaid : Prop := moesiStoresRow.holds Tryd.pinned (OpenSpec.ofChange moesiStoresSpec)

/-- ITS FALSE NEIGHBOUR: 'it returns false'. Refute it at one input. -/
def moesiStoresWrong : ChangeSpec := { name := "moesiStores", fn := fun _ => fun
  | [d1, d2] => { results := [.lit (.bool false)], args := [d1, d2] }
  | _ => none }
def MoesiStoresWrongFalsely : Prop := moesiStoresRow.holds Tryd.pinned (OpenSpec.ofChange moesiStoresWrong)

/- THE SECOND FORM. 'bulk': how many values and letters a reading holds, each counted each time it is reached (what is shared counts as often as it is met; a slice's spare places count too). A statement '..UptoSaid' is the law's where the arguments, and the package variables that the reading takes, are together of bulk at most 1048576: NARROWER than '..Said'. Prove '..Said' where nothing that the law and all that it calls make is longer than what came in: it says more and counts as full. Else prove '..UptoSaid'. A law counts once. -/
mutual
def uptoBulk {H : Type} : DataW H → Nat
  | .lit (.string bytes) => bytes.length + 1
  | .lit _ => 1
  | .nil => 1
  | .ptr d => uptoBulk d + 1
  | .slice elems spare => uptoBulkAll elems + uptoBulkAll spare + 1
  | .agg parts => uptoBulkAll parts + 1
  | .iface _ d => uptoBulk d + 1
  | .map entries => uptoBulkEntries entries + 1
  | .held _ => 1
def uptoBulkAll {H : Type} : List (DataW H) → Nat
  | [] => 0
  | d :: r => uptoBulk d + uptoBulkAll r
def uptoBulkEntries {H : Type} : List (Lit × DataW H) → Nat
  | [] => 0
  | x :: r => uptoBulkEntry x + uptoBulkEntries r
def uptoBulkEntry {H : Type} : Lit × DataW H → Nat
  | (.string bytes, d) => bytes.length + uptoBulk d + 1
  | (_, d) => uptoBulk d + 1
 end
def uptoSmall : (H : Type) → List (DataW H) → Bool := fun _ ds => decide (uptoBulkAll ds ≤ 1048576)
def OpenSpec.upto (s : _root_.Go.ChangeSpec) : _root_.Go.OpenSpec := { _root_.Go.OpenSpec.ofChange s with cond := some uptoSmall }

/-- 'donjonlaw01.PlaceChecks', WHERE WHAT IT READS IS OF BULK AT MOST 1048576: true; the input reads as it did. -/
def placeChecksUptoRow : OpenClaim := { program := "ytnbdaffbmpbfjaadoor", sum := "1ea4a9a05133245deaae5b2cab47b32049f2eb672a526fa289c89fdf93f7e50b", func := "donjon/donjonlaw01.PlaceChecks", spec := "placeChecks", named := ["donjon/place.limits"], apart := false, laid := [("donjon/place.limits", laid_donjon_place_limits)], narrowed := true }
def PlaceChecksUptoSaid : Prop := placeChecksUptoRow.holds Tryd.pinned (OpenSpec.upto placeChecksSpec)

/-- 'donjonlaw01.PlaceFinds', WHERE WHAT IT READS IS OF BULK AT MOST 1048576: true; the input reads as it did. -/
def placeFindsUptoRow : OpenClaim := { program := "ytnbdaffbmpbfjaadoor", sum := "1ea4a9a05133245deaae5b2cab47b32049f2eb672a526fa289c89fdf93f7e50b", func := "donjon/donjonlaw01.PlaceFinds", spec := "placeFinds", named := ["donjon/place.limits"], apart := false, laid := [("donjon/place.limits", laid_donjon_place_limits)], narrowed := true }
def PlaceFindsUptoSaid : Prop := placeFindsUptoRow.holds Tryd.pinned (OpenSpec.upto placeFindsSpec)

/-- 'donjonlaw01.PlaceLines', WHERE WHAT IT READS IS OF BULK AT MOST 1048576: true; the input reads as it did. -/
def placeLinesUptoRow : OpenClaim := { program := "ytnbdaffbmpbfjaadoor", sum := "1ea4a9a05133245deaae5b2cab47b32049f2eb672a526fa289c89fdf93f7e50b", func := "donjon/donjonlaw01.PlaceLines", spec := "placeLines", unfollowed := true, recurses := true, named := ["donjon/place.limits"], apart := false, laid := [("donjon/place.limits", laid_donjon_place_limits)], narrowed := true }
def PlaceLinesUptoSaid : Prop := placeLinesUptoRow.holds Tryd.pinned (OpenSpec.upto placeLinesSpec)

/-- 'donjonlaw01.PlaceBack', WHERE WHAT IT READS IS OF BULK AT MOST 1048576: true; the input reads as it did. -/
def placeBackUptoRow : OpenClaim := { program := "ytnbdaffbmpbfjaadoor", sum := "1ea4a9a05133245deaae5b2cab47b32049f2eb672a526fa289c89fdf93f7e50b", func := "donjon/donjonlaw01.PlaceBack", spec := "placeBack", unfollowed := true, recurses := true, named := ["donjon/place.limits"], apart := false, laid := [("donjon/place.limits", laid_donjon_place_limits)], narrowed := true }
def PlaceBackUptoSaid : Prop := placeBackUptoRow.holds Tryd.pinned (OpenSpec.upto placeBackSpec)

/-- 'donjonlaw06.MoesiProbes', WHERE WHAT IT READS IS OF BULK AT MOST 1048576: true; the input reads as it did. -/
def moesiProbesUptoRow : OpenClaim := { program := "ytnbdaffbmpbfjaadoor", sum := "1ea4a9a05133245deaae5b2cab47b32049f2eb672a526fa289c89fdf93f7e50b", func := "donjon/donjonlaw06.MoesiProbes", spec := "moesiProbes", named := ["donjon/moesi.rows"], apart := false, laid := [("donjon/moesi.rows", laid_donjon_moesi_rows)], narrowed := true }
def MoesiProbesUptoSaid : Prop := moesiProbesUptoRow.holds Tryd.pinned (OpenSpec.upto moesiProbesSpec)

/-- 'donjonlaw06.MoesiGrants', WHERE WHAT IT READS IS OF BULK AT MOST 1048576: true; the input reads as it did. -/
def moesiGrantsUptoRow : OpenClaim := { program := "ytnbdaffbmpbfjaadoor", sum := "1ea4a9a05133245deaae5b2cab47b32049f2eb672a526fa289c89fdf93f7e50b", func := "donjon/donjonlaw06.MoesiGrants", spec := "moesiGrants", named := ["donjon/moesi.rows"], apart := false, laid := [("donjon/moesi.rows", laid_donjon_moesi_rows)], narrowed := true }
def MoesiGrantsUptoSaid : Prop := moesiGrantsUptoRow.holds Tryd.pinned (OpenSpec.upto moesiGrantsSpec)

/-- 'donjonlaw06.MoesiFits', WHERE WHAT IT READS IS OF BULK AT MOST 1048576: true; the input reads as it did. -/
def moesiFitsUptoRow : OpenClaim := { program := "ytnbdaffbmpbfjaadoor", sum := "1ea4a9a05133245deaae5b2cab47b32049f2eb672a526fa289c89fdf93f7e50b", func := "donjon/donjonlaw06.MoesiFits", spec := "moesiFits", named := ["donjon/moesi.rows"], apart := false, laid := [("donjon/moesi.rows", laid_donjon_moesi_rows)], narrowed := true }
def MoesiFitsUptoSaid : Prop := moesiFitsUptoRow.holds Tryd.pinned (OpenSpec.upto moesiFitsSpec)

/-- 'donjonlaw06.MoesiKeeps', WHERE WHAT IT READS IS OF BULK AT MOST 1048576: true; the input reads as it did. -/
def moesiKeepsUptoRow : OpenClaim := { program := "ytnbdaffbmpbfjaadoor", sum := "1ea4a9a05133245deaae5b2cab47b32049f2eb672a526fa289c89fdf93f7e50b", func := "donjon/donjonlaw06.MoesiKeeps", spec := "moesiKeeps", named := ["donjon/moesi.rows"], apart := false, laid := [("donjon/moesi.rows", laid_donjon_moesi_rows)], narrowed := true }
def MoesiKeepsUptoSaid : Prop := moesiKeepsUptoRow.holds Tryd.pinned (OpenSpec.upto moesiKeepsSpec)

/-- 'donjonlaw06.MoesiTwice', WHERE WHAT IT READS IS OF BULK AT MOST 1048576: true; the input reads as it did. -/
def moesiTwiceUptoRow : OpenClaim := { program := "ytnbdaffbmpbfjaadoor", sum := "1ea4a9a05133245deaae5b2cab47b32049f2eb672a526fa289c89fdf93f7e50b", func := "donjon/donjonlaw06.MoesiTwice", spec := "moesiTwice", named := ["donjon/moesi.rows"], apart := false, laid := [("donjon/moesi.rows", laid_donjon_moesi_rows)], narrowed := true }
def MoesiTwiceUptoSaid : Prop := moesiTwiceUptoRow.holds Tryd.pinned (OpenSpec.upto moesiTwiceSpec)

/-- 'donjonlaw06.MoesiStores', WHERE WHAT IT READS IS OF BULK AT MOST 1048576: true; the input reads as it did. -/
def moesiStoresUptoRow : OpenClaim := { program := "ytnbdaffbmpbfjaadoor", sum := "1ea4a9a05133245deaae5b2cab47b32049f2eb672a526fa289c89fdf93f7e50b", func := "donjon/donjonlaw06.MoesiStores", spec := "moesiStores", named := ["donjon/moesi.rows"], apart := false, laid := [("donjon/moesi.rows", laid_donjon_moesi_rows)], narrowed := true }
def MoesiStoresUptoSaid : Prop := moesiStoresUptoRow.holds Tryd.pinned (OpenSpec.upto moesiStoresSpec)

end Rows
end Go.Proofs.YtnbdaffbmpbfjaaDoor
