/-
  NARROWER THAN 'FOR EVERY INPUT', by the rows' own cells (each row's printed sentence says how): CoreNews: laid · CoreRuns: laid · CoreNil: laid · AtomJudges: laid · AtomApart: laid · AtomSteps: laid · AtomBusy: laid · AtomKeeps: laid · AtomCopies: laid · AtomNil: laid · CorePlaces: laid.
  DERIVED. THE GIVEN ROWS OF THIS SEAT. 11 by the template 'for every input the law returns true; each argument reads behind the call as it read before'; 0 by the template 'total and deterministic' (their statements: YtkobeajbiendlaaDoorTotals.lean).
  GIVEN WITH THE SEED: the statements are not yours to turn. If you find one false, say at which input.
  Laid BY PROGRAM, IN A SANDBOX (cutbox-rows.mjs): the forced cells as the released guide's own fill.sh prints them over the translation 20b9ac26f0649ee2… (all of the seat's roots in one cut). By AI agents, Wed Nov 11 2026. No macro, syntax, notation, axiom, sorry.
-/
import Derived.Test.YtkobeajbiendlaaDoorChecked
import GoSem.Claim
import GoSem.ClaimJoined
import GoSem.ClaimMapViews
import Derived.JoinedTies
import Derived.KernelRfl
namespace Go.Proofs.YtkobeajbiendlaaDoor
/- THE CELL 'sum', in the pinned program and in every row, IS THE sha256 OF THE DUMP (.gsa) THAT YtkobeajbiendlaaDoorProg.lean LOADS. Nothing in Lean hashes anything: it is a label: what it is worth is what the hold of that sum in a sandbox is worth. -/
noncomputable def Tryd.pinned : Pinned := { name := "ytkobeajbiendlaadoor", sum := "20b9ac26f0649ee26f82fd466f3c551ca387760acdeac0ece73ce0763e56d8d7", checked := Tryd.checked }
namespace Rows
def none {H : Type} : Left H := { results := [], args := [] }

/- WHAT THE LISTED PACKAGE-LEVEL VARIABLES READ AS WHEN THE CALL BEGINS. Each datum BY PROGRAM (the guide's laid-datum.mjs) off the statement by which the dump's own 'gosem.cut.vars' lays the variable. In a bare row this is a premise. The card (YtkobeajbiendlaaDoorCards.lean) ties it to the program's text. -/
def laid_donjon_isa_ops {H : Type} : DataW H := .agg [.agg [.lit (.string []), .agg [.lit (.int .i64 0), .lit (.int .i64 0), .lit (.int .i64 0)]], .agg [.lit (.string [115, 101, 116]), .agg [.lit (.int .i64 1), .lit (.int .i64 2), .lit (.int .i64 0)]], .agg [.lit (.string [97, 100, 100]), .agg [.lit (.int .i64 1), .lit (.int .i64 1), .lit (.int .i64 1)]], .agg [.lit (.string [108, 111, 97, 100]), .agg [.lit (.int .i64 1), .lit (.int .i64 1), .lit (.int .i64 0)]], .agg [.lit (.string [115, 116, 111, 114, 101]), .agg [.lit (.int .i64 1), .lit (.int .i64 1), .lit (.int .i64 0)]], .agg [.lit (.string [115, 119, 97, 112]), .agg [.lit (.int .i64 1), .lit (.int .i64 1), .lit (.int .i64 0)]], .agg [.lit (.string [102, 101, 110, 99, 101]), .agg [.lit (.int .i64 0), .lit (.int .i64 0), .lit (.int .i64 0)]], .agg [.lit (.string [119, 111, 114, 108, 100]), .agg [.lit (.int .i64 3), .lit (.int .i64 0), .lit (.int .i64 0)]], .agg [.lit (.string [99, 97, 108, 108]), .agg [.lit (.int .i64 4), .lit (.int .i64 1), .lit (.int .i64 1)]], .agg [.lit (.string [106, 117, 109, 112]), .agg [.lit (.int .i64 5), .lit (.int .i64 0), .lit (.int .i64 0)]], .agg [.lit (.string [122, 101, 114, 111]), .agg [.lit (.int .i64 1), .lit (.int .i64 5), .lit (.int .i64 0)]], .agg [.lit (.string [104, 97, 108, 116]), .agg [.lit (.int .i64 0), .lit (.int .i64 0), .lit (.int .i64 0)]]]
def laid_donjon_place_limits {H : Type} : DataW H := .agg [.lit (.int .i64 4), .lit (.int .i64 16), .lit (.int .i64 8), .lit (.int .i64 4), .lit (.int .i64 16), .lit (.int .i64 8), .lit (.int .i64 4)]

/-- 'donjonlaw15.CoreNews': WHATEVER THE INPUT: true; the input reads as it did. -/
def coreNewsSpec : ChangeSpec := { name := "coreNews", fn := fun _ => fun
  | [d1, d2, d3] => { results := [.lit (.bool true)], args := [d1, d2, d3] }
  | _ => none }
def coreNewsRow : OpenClaim := { program := "ytkobeajbiendlaadoor", sum := "20b9ac26f0649ee26f82fd466f3c551ca387760acdeac0ece73ce0763e56d8d7", func := "donjon/donjonlaw15.CoreNews", spec := "coreNews", unfollowed := true, recurses := true, named := ["donjon/isa.ops"], apart := false, laid := [("donjon/isa.ops", laid_donjon_isa_ops)] }
def CoreNewsSaid : Prop := coreNewsRow.holds Tryd.pinned (OpenSpec.ofChange coreNewsSpec)

/-- ITS FALSE NEIGHBOUR: 'it returns false'. Refute it at one input. -/
def coreNewsWrong : ChangeSpec := { name := "coreNews", fn := fun _ => fun
  | [d1, d2, d3] => { results := [.lit (.bool false)], args := [d1, d2, d3] }
  | _ => none }
def CoreNewsWrongFalsely : Prop := coreNewsRow.holds Tryd.pinned (OpenSpec.ofChange coreNewsWrong)

/-- 'donjonlaw15.CoreRuns': WHATEVER THE INPUT: true; the input reads as it did. -/
def coreRunsSpec : ChangeSpec := { name := "coreRuns", fn := fun _ => fun
  | [d1, d2, d3] => { results := [.lit (.bool true)], args := [d1, d2, d3] }
  | _ => none }
def coreRunsRow : OpenClaim := { program := "ytkobeajbiendlaadoor", sum := "20b9ac26f0649ee26f82fd466f3c551ca387760acdeac0ece73ce0763e56d8d7", func := "donjon/donjonlaw15.CoreRuns", spec := "coreRuns", unfollowed := true, recurses := true, named := ["donjon/isa.ops"], apart := false, laid := [("donjon/isa.ops", laid_donjon_isa_ops)] }
def CoreRunsSaid : Prop := coreRunsRow.holds Tryd.pinned (OpenSpec.ofChange coreRunsSpec)

/-- ITS FALSE NEIGHBOUR: 'it returns false'. Refute it at one input. -/
def coreRunsWrong : ChangeSpec := { name := "coreRuns", fn := fun _ => fun
  | [d1, d2, d3] => { results := [.lit (.bool false)], args := [d1, d2, d3] }
  | _ => none }
def CoreRunsWrongFalsely : Prop := coreRunsRow.holds Tryd.pinned (OpenSpec.ofChange coreRunsWrong)

/-- 'donjonlaw15.CoreNil': WHATEVER THE INPUT: true; the input reads as it did. -/
def coreNilSpec : ChangeSpec := { name := "coreNil", fn := fun _ => fun
  | [d1, d2, d3] => { results := [.lit (.bool true)], args := [d1, d2, d3] }
  | _ => none }
def coreNilRow : OpenClaim := { program := "ytkobeajbiendlaadoor", sum := "20b9ac26f0649ee26f82fd466f3c551ca387760acdeac0ece73ce0763e56d8d7", func := "donjon/donjonlaw15.CoreNil", spec := "coreNil", unfollowed := true, recurses := true, named := ["donjon/isa.ops"], apart := false, laid := [("donjon/isa.ops", laid_donjon_isa_ops)] }
def CoreNilSaid : Prop := coreNilRow.holds Tryd.pinned (OpenSpec.ofChange coreNilSpec)

/-- ITS FALSE NEIGHBOUR: 'it returns false'. Refute it at one input. -/
def coreNilWrong : ChangeSpec := { name := "coreNil", fn := fun _ => fun
  | [d1, d2, d3] => { results := [.lit (.bool false)], args := [d1, d2, d3] }
  | _ => none }
def CoreNilWrongFalsely : Prop := coreNilRow.holds Tryd.pinned (OpenSpec.ofChange coreNilWrong)

/-- 'donjonlaw11.AtomJudges': WHATEVER THE INPUT: true; the input reads as it did. -/
def atomJudgesSpec : ChangeSpec := { name := "atomJudges", fn := fun _ => fun
  | [d1, d2, d3] => { results := [.lit (.bool true)], args := [d1, d2, d3] }
  | _ => none }
def atomJudgesRow : OpenClaim := { program := "ytkobeajbiendlaadoor", sum := "20b9ac26f0649ee26f82fd466f3c551ca387760acdeac0ece73ce0763e56d8d7", func := "donjon/donjonlaw11.AtomJudges", spec := "atomJudges", unfollowed := true, recurses := true, named := ["donjon/place.limits", "donjon/isa.ops"], apart := false, laid := [("donjon/place.limits", laid_donjon_place_limits), ("donjon/isa.ops", laid_donjon_isa_ops)] }
def AtomJudgesSaid : Prop := atomJudgesRow.holds Tryd.pinned (OpenSpec.ofChange atomJudgesSpec)

/-- ITS FALSE NEIGHBOUR: 'it returns false'. Refute it at one input. -/
def atomJudgesWrong : ChangeSpec := { name := "atomJudges", fn := fun _ => fun
  | [d1, d2, d3] => { results := [.lit (.bool false)], args := [d1, d2, d3] }
  | _ => none }
def AtomJudgesWrongFalsely : Prop := atomJudgesRow.holds Tryd.pinned (OpenSpec.ofChange atomJudgesWrong)

/-- 'donjonlaw11.AtomApart': WHATEVER THE INPUT: true; the input reads as it did. -/
def atomApartSpec : ChangeSpec := { name := "atomApart", fn := fun _ => fun
  | [d1, d2, d3] => { results := [.lit (.bool true)], args := [d1, d2, d3] }
  | _ => none }
def atomApartRow : OpenClaim := { program := "ytkobeajbiendlaadoor", sum := "20b9ac26f0649ee26f82fd466f3c551ca387760acdeac0ece73ce0763e56d8d7", func := "donjon/donjonlaw11.AtomApart", spec := "atomApart", unfollowed := true, recurses := true, named := ["donjon/place.limits", "donjon/isa.ops"], apart := false, laid := [("donjon/place.limits", laid_donjon_place_limits), ("donjon/isa.ops", laid_donjon_isa_ops)] }
def AtomApartSaid : Prop := atomApartRow.holds Tryd.pinned (OpenSpec.ofChange atomApartSpec)

/-- ITS FALSE NEIGHBOUR: 'it returns false'. Refute it at one input. -/
def atomApartWrong : ChangeSpec := { name := "atomApart", fn := fun _ => fun
  | [d1, d2, d3] => { results := [.lit (.bool false)], args := [d1, d2, d3] }
  | _ => none }
def AtomApartWrongFalsely : Prop := atomApartRow.holds Tryd.pinned (OpenSpec.ofChange atomApartWrong)

/-- 'donjonlaw11.AtomSteps': WHATEVER THE INPUT: true; the input reads as it did. -/
def atomStepsSpec : ChangeSpec := { name := "atomSteps", fn := fun _ => fun
  | [d1, d2] => { results := [.lit (.bool true)], args := [d1, d2] }
  | _ => none }
def atomStepsRow : OpenClaim := { program := "ytkobeajbiendlaadoor", sum := "20b9ac26f0649ee26f82fd466f3c551ca387760acdeac0ece73ce0763e56d8d7", func := "donjon/donjonlaw11.AtomSteps", spec := "atomSteps", unfollowed := true, recurses := true, named := ["donjon/place.limits", "donjon/isa.ops"], apart := false, laid := [("donjon/place.limits", laid_donjon_place_limits), ("donjon/isa.ops", laid_donjon_isa_ops)] }
def AtomStepsSaid : Prop := atomStepsRow.holds Tryd.pinned (OpenSpec.ofChange atomStepsSpec)

/-- ITS FALSE NEIGHBOUR: 'it returns false'. Refute it at one input. -/
def atomStepsWrong : ChangeSpec := { name := "atomSteps", fn := fun _ => fun
  | [d1, d2] => { results := [.lit (.bool false)], args := [d1, d2] }
  | _ => none }
def AtomStepsWrongFalsely : Prop := atomStepsRow.holds Tryd.pinned (OpenSpec.ofChange atomStepsWrong)

/-- 'donjonlaw11.AtomBusy': WHATEVER THE INPUT: true; the input reads as it did. -/
def atomBusySpec : ChangeSpec := { name := "atomBusy", fn := fun _ => fun
  | [d1, d2, d3] => { results := [.lit (.bool true)], args := [d1, d2, d3] }
  | _ => none }
def atomBusyRow : OpenClaim := { program := "ytkobeajbiendlaadoor", sum := "20b9ac26f0649ee26f82fd466f3c551ca387760acdeac0ece73ce0763e56d8d7", func := "donjon/donjonlaw11.AtomBusy", spec := "atomBusy", unfollowed := true, recurses := true, named := ["donjon/place.limits", "donjon/isa.ops"], apart := false, laid := [("donjon/place.limits", laid_donjon_place_limits), ("donjon/isa.ops", laid_donjon_isa_ops)] }
def AtomBusySaid : Prop := atomBusyRow.holds Tryd.pinned (OpenSpec.ofChange atomBusySpec)

/-- ITS FALSE NEIGHBOUR: 'it returns false'. Refute it at one input. -/
def atomBusyWrong : ChangeSpec := { name := "atomBusy", fn := fun _ => fun
  | [d1, d2, d3] => { results := [.lit (.bool false)], args := [d1, d2, d3] }
  | _ => none }
def AtomBusyWrongFalsely : Prop := atomBusyRow.holds Tryd.pinned (OpenSpec.ofChange atomBusyWrong)

/-- 'donjonlaw11.AtomKeeps': WHATEVER THE INPUT: true; the input reads as it did. -/
def atomKeepsSpec : ChangeSpec := { name := "atomKeeps", fn := fun _ => fun
  | [d1, d2] => { results := [.lit (.bool true)], args := [d1, d2] }
  | _ => none }
def atomKeepsRow : OpenClaim := { program := "ytkobeajbiendlaadoor", sum := "20b9ac26f0649ee26f82fd466f3c551ca387760acdeac0ece73ce0763e56d8d7", func := "donjon/donjonlaw11.AtomKeeps", spec := "atomKeeps", unfollowed := true, recurses := true, named := ["donjon/place.limits", "donjon/isa.ops"], apart := false, laid := [("donjon/place.limits", laid_donjon_place_limits), ("donjon/isa.ops", laid_donjon_isa_ops)] }
def AtomKeepsSaid : Prop := atomKeepsRow.holds Tryd.pinned (OpenSpec.ofChange atomKeepsSpec)

/-- ITS FALSE NEIGHBOUR: 'it returns false'. Refute it at one input. -/
def atomKeepsWrong : ChangeSpec := { name := "atomKeeps", fn := fun _ => fun
  | [d1, d2] => { results := [.lit (.bool false)], args := [d1, d2] }
  | _ => none }
def AtomKeepsWrongFalsely : Prop := atomKeepsRow.holds Tryd.pinned (OpenSpec.ofChange atomKeepsWrong)

/-- 'donjonlaw11.AtomCopies': WHATEVER THE INPUT: true; the input reads as it did. -/
def atomCopiesSpec : ChangeSpec := { name := "atomCopies", fn := fun _ => fun
  | [d1, d2, d3] => { results := [.lit (.bool true)], args := [d1, d2, d3] }
  | _ => none }
def atomCopiesRow : OpenClaim := { program := "ytkobeajbiendlaadoor", sum := "20b9ac26f0649ee26f82fd466f3c551ca387760acdeac0ece73ce0763e56d8d7", func := "donjon/donjonlaw11.AtomCopies", spec := "atomCopies", unfollowed := true, recurses := true, named := ["donjon/place.limits", "donjon/isa.ops"], apart := false, laid := [("donjon/place.limits", laid_donjon_place_limits), ("donjon/isa.ops", laid_donjon_isa_ops)] }
def AtomCopiesSaid : Prop := atomCopiesRow.holds Tryd.pinned (OpenSpec.ofChange atomCopiesSpec)

/-- ITS FALSE NEIGHBOUR: 'it returns false'. Refute it at one input. -/
def atomCopiesWrong : ChangeSpec := { name := "atomCopies", fn := fun _ => fun
  | [d1, d2, d3] => { results := [.lit (.bool false)], args := [d1, d2, d3] }
  | _ => none }
def AtomCopiesWrongFalsely : Prop := atomCopiesRow.holds Tryd.pinned (OpenSpec.ofChange atomCopiesWrong)

/-- 'donjonlaw11.AtomNil': WHATEVER THE INPUT: true; the input reads as it did. -/
def atomNilSpec : ChangeSpec := { name := "atomNil", fn := fun _ => fun
  | [d1, d2] => { results := [.lit (.bool true)], args := [d1, d2] }
  | _ => none }
def atomNilRow : OpenClaim := { program := "ytkobeajbiendlaadoor", sum := "20b9ac26f0649ee26f82fd466f3c551ca387760acdeac0ece73ce0763e56d8d7", func := "donjon/donjonlaw11.AtomNil", spec := "atomNil", unfollowed := true, recurses := true, named := ["donjon/place.limits", "donjon/isa.ops"], apart := false, laid := [("donjon/place.limits", laid_donjon_place_limits), ("donjon/isa.ops", laid_donjon_isa_ops)] }
def AtomNilSaid : Prop := atomNilRow.holds Tryd.pinned (OpenSpec.ofChange atomNilSpec)

/-- ITS FALSE NEIGHBOUR: 'it returns false'. Refute it at one input. -/
def atomNilWrong : ChangeSpec := { name := "atomNil", fn := fun _ => fun
  | [d1, d2] => { results := [.lit (.bool false)], args := [d1, d2] }
  | _ => none }
def AtomNilWrongFalsely : Prop := atomNilRow.holds Tryd.pinned (OpenSpec.ofChange atomNilWrong)

/-- 'donjonlaw15.CorePlaces': WHATEVER THE INPUT: true; the input reads as it did. -/
def corePlacesSpec : ChangeSpec := { name := "corePlaces", fn := fun _ => fun
  | [d] => { results := [.lit (.bool true)], args := [d] }
  | _ => none }
def corePlacesRow : OpenClaim := { program := "ytkobeajbiendlaadoor", sum := "20b9ac26f0649ee26f82fd466f3c551ca387760acdeac0ece73ce0763e56d8d7", func := "donjon/donjonlaw15.CorePlaces", spec := "corePlaces", unfollowed := true, recurses := true, named := ["donjon/isa.ops", "donjon/place.limits"], apart := false, laid := [("donjon/place.limits", laid_donjon_place_limits), ("donjon/isa.ops", laid_donjon_isa_ops)] }
def CorePlacesSaid : Prop := corePlacesRow.holds Tryd.pinned (OpenSpec.ofChange corePlacesSpec)

/-- ITS FALSE NEIGHBOUR: 'it returns false'. Refute it at one input. -/
def corePlacesWrong : ChangeSpec := { name := "corePlaces", fn := fun _ => fun
  | [d] => { results := [.lit (.bool false)], args := [d] }
  | _ => none }
def CorePlacesWrongFalsely : Prop := corePlacesRow.holds Tryd.pinned (OpenSpec.ofChange corePlacesWrong)

/- THE SECOND FORM. 'bulk': how many values and letters a reading holds, each counted each time it is reached (what is shared counts as often as it is met; a slice's spare places count too). A statement '..UptoSaid' is the law's where the arguments, and the package variables that the reading takes, are together of bulk at most 1048576: NARROWER than '..Said'. Prove '..Said' where nothing that the law and all that it calls make is longer than what came in: it says more and counts as full. Else prove '..UptoSaid'. A law counts once. -/
mutual
def uptoBulk {H : Type} : DataW H → Nat
  | .lit (.string bytes) => bytes.length + 1
  | .lit _ => 1
  | .nil => 1
  | .ptr d => uptoBulk d + 1
  | .slice elems spare => uptoBulkAll elems + uptoBulkAll spare + 1
  | .agg parts => uptoBulkAll parts + 1
  | .iface _ d => uptoBulk d + 1
  | .map entries => uptoBulkEntries entries + 1
  | .held _ => 1
def uptoBulkAll {H : Type} : List (DataW H) → Nat
  | [] => 0
  | d :: r => uptoBulk d + uptoBulkAll r
def uptoBulkEntries {H : Type} : List (Lit × DataW H) → Nat
  | [] => 0
  | x :: r => uptoBulkEntry x + uptoBulkEntries r
def uptoBulkEntry {H : Type} : Lit × DataW H → Nat
  | (.string bytes, d) => bytes.length + uptoBulk d + 1
  | (_, d) => uptoBulk d + 1
 end
def uptoSmall : (H : Type) → List (DataW H) → Bool := fun _ ds => decide (uptoBulkAll ds ≤ 1048576)
def OpenSpec.upto (s : _root_.Go.ChangeSpec) : _root_.Go.OpenSpec := { _root_.Go.OpenSpec.ofChange s with cond := some uptoSmall }

/-- 'donjonlaw15.CoreNews', WHERE WHAT IT READS IS OF BULK AT MOST 1048576: true; the input reads as it did. -/
def coreNewsUptoRow : OpenClaim := { program := "ytkobeajbiendlaadoor", sum := "20b9ac26f0649ee26f82fd466f3c551ca387760acdeac0ece73ce0763e56d8d7", func := "donjon/donjonlaw15.CoreNews", spec := "coreNews", unfollowed := true, recurses := true, named := ["donjon/isa.ops"], apart := false, laid := [("donjon/isa.ops", laid_donjon_isa_ops)], narrowed := true }
def CoreNewsUptoSaid : Prop := coreNewsUptoRow.holds Tryd.pinned (OpenSpec.upto coreNewsSpec)

/-- 'donjonlaw15.CoreRuns', WHERE WHAT IT READS IS OF BULK AT MOST 1048576: true; the input reads as it did. -/
def coreRunsUptoRow : OpenClaim := { program := "ytkobeajbiendlaadoor", sum := "20b9ac26f0649ee26f82fd466f3c551ca387760acdeac0ece73ce0763e56d8d7", func := "donjon/donjonlaw15.CoreRuns", spec := "coreRuns", unfollowed := true, recurses := true, named := ["donjon/isa.ops"], apart := false, laid := [("donjon/isa.ops", laid_donjon_isa_ops)], narrowed := true }
def CoreRunsUptoSaid : Prop := coreRunsUptoRow.holds Tryd.pinned (OpenSpec.upto coreRunsSpec)

/-- 'donjonlaw15.CoreNil', WHERE WHAT IT READS IS OF BULK AT MOST 1048576: true; the input reads as it did. -/
def coreNilUptoRow : OpenClaim := { program := "ytkobeajbiendlaadoor", sum := "20b9ac26f0649ee26f82fd466f3c551ca387760acdeac0ece73ce0763e56d8d7", func := "donjon/donjonlaw15.CoreNil", spec := "coreNil", unfollowed := true, recurses := true, named := ["donjon/isa.ops"], apart := false, laid := [("donjon/isa.ops", laid_donjon_isa_ops)], narrowed := true }
def CoreNilUptoSaid : Prop := coreNilUptoRow.holds Tryd.pinned (OpenSpec.upto coreNilSpec)

/-- 'donjonlaw11.AtomJudges', WHERE WHAT IT READS IS OF BULK AT MOST 1048576: true; the input reads as it did. -/
def atomJudgesUptoRow : OpenClaim := { program := "ytkobeajbiendlaadoor", sum := "20b9ac26f0649ee26f82fd466f3c551ca387760acdeac0ece73ce0763e56d8d7", func := "donjon/donjonlaw11.AtomJudges", spec := "atomJudges", unfollowed := true, recurses := true, named := ["donjon/place.limits", "donjon/isa.ops"], apart := false, laid := [("donjon/place.limits", laid_donjon_place_limits), ("donjon/isa.ops", laid_donjon_isa_ops)], narrowed := true }
def AtomJudgesUptoSaid : Prop := atomJudgesUptoRow.holds Tryd.pinned (OpenSpec.upto atomJudgesSpec)

/-- 'donjonlaw11.AtomApart', WHERE WHAT IT READS IS OF BULK AT MOST 1048576: true; the input reads as it did. -/
def atomApartUptoRow : OpenClaim := { program := "ytkobeajbiendlaadoor", sum := "20b9ac26f0649ee26f82fd466f3c551ca387760acdeac0ece73ce0763e56d8d7", func := "donjon/donjonlaw11.AtomApart", spec := "atomApart", unfollowed := true, recurses := true, named := ["donjon/place.limits", "donjon/isa.ops"], apart := false, laid := [("donjon/place.limits", laid_donjon_place_limits), ("donjon/isa.ops", laid_donjon_isa_ops)], narrowed := true }
def AtomApartUptoSaid : Prop := atomApartUptoRow.holds Tryd.pinned (OpenSpec.upto atomApartSpec)

/-- 'donjonlaw11.AtomSteps', WHERE WHAT IT READS IS OF BULK AT MOST 1048576: true; the input reads as it did. -/
def atomStepsUptoRow : OpenClaim := { program := "ytkobeajbiendlaadoor", sum := "20b9ac26f0649ee26f82fd466f3c551ca387760acdeac0ece73ce0763e56d8d7", func := "donjon/donjonlaw11.AtomSteps", spec := "atomSteps", unfollowed := true, recurses := true, named := ["donjon/place.limits", "donjon/isa.ops"], apart := false, laid := [("donjon/place.limits", laid_donjon_place_limits), ("donjon/isa.ops", laid_donjon_isa_ops)], narrowed := true }
def AtomStepsUptoSaid : Prop := atomStepsUptoRow.holds Tryd.pinned (OpenSpec.upto atomStepsSpec)

/-- 'donjonlaw11.AtomBusy', WHERE WHAT IT READS IS OF BULK AT MOST 1048576: true; the input reads as it did. -/
def atomBusyUptoRow : OpenClaim := { program := "ytkobeajbiendlaadoor", sum := "20b9ac26f0649ee26f82fd466f3c551ca387760acdeac0ece73ce0763e56d8d7", func := "donjon/donjonlaw11.AtomBusy", spec := "atomBusy", unfollowed := true, recurses := true, named := ["donjon/place.limits", "donjon/isa.ops"], apart := false, laid := [("donjon/place.limits", laid_donjon_place_limits), ("donjon/isa.ops", laid_donjon_isa_ops)], narrowed := true }
def AtomBusyUptoSaid : Prop := atomBusyUptoRow.holds Tryd.pinned (OpenSpec.upto atomBusySpec)

/-- 'donjonlaw11.AtomKeeps', WHERE WHAT IT READS IS OF BULK AT MOST 1048576: true; the input reads as it did. -/
def atomKeepsUptoRow : OpenClaim := { program := "ytkobeajbiendlaadoor", sum := "20b9ac26f0649ee26f82fd466f3c551ca387760acdeac0ece73ce0763e56d8d7", func := "donjon/donjonlaw11.AtomKeeps", spec := "atomKeeps", unfollowed := true, recurses := true, named := ["donjon/place.limits", "donjon/isa.ops"], apart := false, laid := [("donjon/place.limits", laid_donjon_place_limits), ("donjon/isa.ops", laid_donjon_isa_ops)], narrowed := true }
def AtomKeepsUptoSaid : Prop := atomKeepsUptoRow.holds Tryd.pinned (OpenSpec.upto atomKeepsSpec)

/-- 'donjonlaw11.AtomCopies', WHERE WHAT IT READS IS OF BULK AT MOST 1048576: true; the input reads as it did. -/
def atomCopiesUptoRow : OpenClaim := { program := "ytkobeajbiendlaadoor", sum := "20b9ac26f0649ee26f82fd466f3c551ca387760acdeac0ece73ce0763e56d8d7", func := "donjon/donjonlaw11.AtomCopies", spec := "atomCopies", unfollowed := true, recurses := true, named := ["donjon/place.limits", "donjon/isa.ops"], apart := false, laid := [("donjon/place.limits", laid_donjon_place_limits), ("donjon/isa.ops", laid_donjon_isa_ops)], narrowed := true }
def AtomCopiesUptoSaid : Prop := atomCopiesUptoRow.holds Tryd.pinned (OpenSpec.upto atomCopiesSpec)

/-- 'donjonlaw11.AtomNil', WHERE WHAT IT READS IS OF BULK AT MOST 1048576: true; the input reads as it did. -/
def atomNilUptoRow : OpenClaim := { program := "ytkobeajbiendlaadoor", sum := "20b9ac26f0649ee26f82fd466f3c551ca387760acdeac0ece73ce0763e56d8d7", func := "donjon/donjonlaw11.AtomNil", spec := "atomNil", unfollowed := true, recurses := true, named := ["donjon/place.limits", "donjon/isa.ops"], apart := false, laid := [("donjon/place.limits", laid_donjon_place_limits), ("donjon/isa.ops", laid_donjon_isa_ops)], narrowed := true }
def AtomNilUptoSaid : Prop := atomNilUptoRow.holds Tryd.pinned (OpenSpec.upto atomNilSpec)

/-- 'donjonlaw15.CorePlaces', WHERE WHAT IT READS IS OF BULK AT MOST 1048576: true; the input reads as it did. -/
def corePlacesUptoRow : OpenClaim := { program := "ytkobeajbiendlaadoor", sum := "20b9ac26f0649ee26f82fd466f3c551ca387760acdeac0ece73ce0763e56d8d7", func := "donjon/donjonlaw15.CorePlaces", spec := "corePlaces", unfollowed := true, recurses := true, named := ["donjon/isa.ops", "donjon/place.limits"], apart := false, laid := [("donjon/place.limits", laid_donjon_place_limits), ("donjon/isa.ops", laid_donjon_isa_ops)], narrowed := true }
def CorePlacesUptoSaid : Prop := corePlacesUptoRow.holds Tryd.pinned (OpenSpec.upto corePlacesSpec)

end Rows
end Go.Proofs.YtkobeajbiendlaaDoor
