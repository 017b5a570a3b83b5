/-
  NARROWER THAN 'FOR EVERY INPUT', by the rows' own cells (each row's printed sentence says how): BankApart: laid · BankLast: laid · BankCopies: laid · FabricOnce: laid · FabricCopies: laid · MoesiStates: laid.
  DERIVED. THE GIVEN ROWS OF THIS SEAT. 6 by the template 'for every input the law returns true; each argument reads behind the call as it read before'; 0 by the template 'total and deterministic' (their statements: YtkfnjpmigifomaaDoorTotals.lean).
  GIVEN WITH THE SEED: the statements are not yours to turn. If you find one false, say at which input.
  Laid BY PROGRAM, IN A SANDBOX (cutbox-rows.mjs): the forced cells as the released guide's own fill.sh prints them over the translation 0e85df03ca017cab… (all of the seat's roots in one cut). By AI agents, Wed Nov 11 2026. No macro, syntax, notation, axiom, sorry.
-/
import Derived.Test.YtkfnjpmigifomaaDoorChecked
import GoSem.Claim
import GoSem.ClaimJoined
import GoSem.ClaimMapViews
import Derived.JoinedTies
import Derived.KernelRfl
namespace Go.Proofs.YtkfnjpmigifomaaDoor
/- THE CELL 'sum', in the pinned program and in every row, IS THE sha256 OF THE DUMP (.gsa) THAT YtkfnjpmigifomaaDoorProg.lean LOADS. Nothing in Lean hashes anything: it is a label: what it is worth is what the hold of that sum in a sandbox is worth. -/
noncomputable def Tryd.pinned : Pinned := { name := "ytkfnjpmigifomaadoor", sum := "0e85df03ca017cabc2545550d7dd8ed9434e3e25c2bf3b8871c9f7cbafb7b96c", checked := Tryd.checked }
namespace Rows
def none {H : Type} : Left H := { results := [], args := [] }

/- WHAT THE LISTED PACKAGE-LEVEL VARIABLES READ AS WHEN THE CALL BEGINS. Each datum BY PROGRAM (the guide's laid-datum.mjs) off the statement by which the dump's own 'gosem.cut.vars' lays the variable. In a bare row this is a premise. The card (YtkfnjpmigifomaaDoorCards.lean) ties it to the program's text. -/
def laid_donjon_place_limits {H : Type} : DataW H := .agg [.lit (.int .i64 4), .lit (.int .i64 16), .lit (.int .i64 8), .lit (.int .i64 4), .lit (.int .i64 16), .lit (.int .i64 8), .lit (.int .i64 4)]
def laid_donjon_note_kinds {H : Type} : DataW H := .agg [.agg [.lit (.string []), .lit (.int .i64 0), .agg [.lit (.int .i64 0), .lit (.int .i64 0), .lit (.int .i64 0), .lit (.int .i64 0), .lit (.int .i64 0), .lit (.int .i64 0), .lit (.int .i64 0)]], .agg [.lit (.string [103, 101, 116, 115]), .lit (.int .i64 0), .agg [.lit (.int .i64 1), .lit (.int .i64 2), .lit (.int .i64 3), .lit (.int .i64 0), .lit (.int .i64 0), .lit (.int .i64 0), .lit (.int .i64 0)]], .agg [.lit (.string [103, 101, 116, 109]), .lit (.int .i64 0), .agg [.lit (.int .i64 1), .lit (.int .i64 2), .lit (.int .i64 3), .lit (.int .i64 0), .lit (.int .i64 0), .lit (.int .i64 0), .lit (.int .i64 0)]], .agg [.lit (.string [112, 117, 116]), .lit (.int .i64 0), .agg [.lit (.int .i64 1), .lit (.int .i64 2), .lit (.int .i64 4), .lit (.int .i64 8), .lit (.int .i64 9), .lit (.int .i64 10), .lit (.int .i64 0)]], .agg [.lit (.string [100, 111, 110, 101]), .lit (.int .i64 1), .agg [.lit (.int .i64 1), .lit (.int .i64 2), .lit (.int .i64 0), .lit (.int .i64 0), .lit (.int .i64 0), .lit (.int .i64 0), .lit (.int .i64 0)]], .agg [.lit (.string [114, 101, 112, 108, 121]), .lit (.int .i64 1), .agg [.lit (.int .i64 1), .lit (.int .i64 2), .lit (.int .i64 5), .lit (.int .i64 8), .lit (.int .i64 9), .lit (.int .i64 10), .lit (.int .i64 11)]], .agg [.lit (.string [119, 97, 108, 107]), .lit (.int .i64 0), .agg [.lit (.int .i64 1), .lit (.int .i64 12), .lit (.int .i64 0), .lit (.int .i64 0), .lit (.int .i64 0), .lit (.int .i64 0), .lit (.int .i64 0)]], .agg [.lit (.string [100, 114, 111, 112, 112, 101, 100]), .lit (.int .i64 1), .agg [.lit (.int .i64 1), .lit (.int .i64 13), .lit (.int .i64 0), .lit (.int .i64 0), .lit (.int .i64 0), .lit (.int .i64 0), .lit (.int .i64 0)]], .agg [.lit (.string [103, 114, 97, 110, 116]), .lit (.int .i64 2), .agg [.lit (.int .i64 1), .lit (.int .i64 2), .lit (.int .i64 4), .lit (.int .i64 6), .lit (.int .i64 8), .lit (.int .i64 9), .lit (.int .i64 0)]], .agg [.lit (.string [110, 97, 99, 107]), .lit (.int .i64 2), .agg [.lit (.int .i64 1), .lit (.int .i64 2), .lit (.int .i64 11), .lit (.int .i64 0), .lit (.int .i64 0), .lit (.int .i64 0), .lit (.int .i64 0)]], .agg [.lit (.string [112, 117, 116, 97, 99, 107]), .lit (.int .i64 2), .agg [.lit (.int .i64 1), .lit (.int .i64 2), .lit (.int .i64 0), .lit (.int .i64 0), .lit (.int .i64 0), .lit (.int .i64 0), .lit (.int .i64 0)]], .agg [.lit (.string [112, 114, 111, 98, 101]), .lit (.int .i64 3), .agg [.lit (.int .i64 1), .lit (.int .i64 2), .lit (.int .i64 7), .lit (.int .i64 0), .lit (.int .i64 0), .lit (.int .i64 0), .lit (.int .i64 0)]], .agg [.lit (.string [119, 97, 108, 107, 101, 100]), .lit (.int .i64 2), .agg [.lit (.int .i64 1), .lit (.int .i64 8), .lit (.int .i64 9), .lit (.int .i64 12), .lit (.int .i64 0), .lit (.int .i64 0), .lit (.int .i64 0)]], .agg [.lit (.string [100, 114, 111, 112]), .lit (.int .i64 3), .agg [.lit (.int .i64 1), .lit (.int .i64 13), .lit (.int .i64 0), .lit (.int .i64 0), .lit (.int .i64 0), .lit (.int .i64 0), .lit (.int .i64 0)]]]
def laid_donjon_moesi_rows {H : Type} : DataW H := .agg [.agg [.lit (.string [73]), .lit (.bool false), .lit (.bool false), .lit (.bool false), .lit (.bool false), .lit (.int .i64 0), .lit (.int .i64 0), .lit (.int .i64 0)], .agg [.lit (.string [83]), .lit (.bool true), .lit (.bool false), .lit (.bool false), .lit (.bool false), .lit (.int .i64 0), .lit (.int .i64 1), .lit (.int .i64 0)], .agg [.lit (.string [69]), .lit (.bool true), .lit (.bool true), .lit (.bool false), .lit (.bool true), .lit (.int .i64 4), .lit (.int .i64 1), .lit (.int .i64 0)], .agg [.lit (.string [79]), .lit (.bool true), .lit (.bool false), .lit (.bool true), .lit (.bool true), .lit (.int .i64 0), .lit (.int .i64 3), .lit (.int .i64 0)], .agg [.lit (.string [77]), .lit (.bool true), .lit (.bool true), .lit (.bool true), .lit (.bool true), .lit (.int .i64 4), .lit (.int .i64 3), .lit (.int .i64 0)]]

/-- 'donjonlaw02.BankApart': WHATEVER THE INPUT: true; the input reads as it did. -/
def bankApartSpec : ChangeSpec := { name := "bankApart", fn := fun _ => fun
  | [d1, d2, d3] => { results := [.lit (.bool true)], args := [d1, d2, d3] }
  | _ => none }
def bankApartRow : OpenClaim := { program := "ytkfnjpmigifomaadoor", sum := "0e85df03ca017cabc2545550d7dd8ed9434e3e25c2bf3b8871c9f7cbafb7b96c", func := "donjon/donjonlaw02.BankApart", spec := "bankApart", unfollowed := true, recurses := true, named := ["donjon/place.limits"], apart := false, laid := [("donjon/place.limits", laid_donjon_place_limits)] }
def BankApartSaid : Prop := bankApartRow.holds Tryd.pinned (OpenSpec.ofChange bankApartSpec)

/-- ITS FALSE NEIGHBOUR: 'it returns false'. Refute it at one input. -/
def bankApartWrong : ChangeSpec := { name := "bankApart", fn := fun _ => fun
  | [d1, d2, d3] => { results := [.lit (.bool false)], args := [d1, d2, d3] }
  | _ => none }
def BankApartWrongFalsely : Prop := bankApartRow.holds Tryd.pinned (OpenSpec.ofChange bankApartWrong)

/-- 'donjonlaw02.BankLast': WHATEVER THE INPUT: true; the input reads as it did. -/
def bankLastSpec : ChangeSpec := { name := "bankLast", fn := fun _ => fun
  | [d1, d2, d3] => { results := [.lit (.bool true)], args := [d1, d2, d3] }
  | _ => none }
def bankLastRow : OpenClaim := { program := "ytkfnjpmigifomaadoor", sum := "0e85df03ca017cabc2545550d7dd8ed9434e3e25c2bf3b8871c9f7cbafb7b96c", func := "donjon/donjonlaw02.BankLast", spec := "bankLast", unfollowed := true, recurses := true, named := ["donjon/place.limits"], apart := false, laid := [("donjon/place.limits", laid_donjon_place_limits)] }
def BankLastSaid : Prop := bankLastRow.holds Tryd.pinned (OpenSpec.ofChange bankLastSpec)

/-- ITS FALSE NEIGHBOUR: 'it returns false'. Refute it at one input. -/
def bankLastWrong : ChangeSpec := { name := "bankLast", fn := fun _ => fun
  | [d1, d2, d3] => { results := [.lit (.bool false)], args := [d1, d2, d3] }
  | _ => none }
def BankLastWrongFalsely : Prop := bankLastRow.holds Tryd.pinned (OpenSpec.ofChange bankLastWrong)

/-- 'donjonlaw02.BankCopies': WHATEVER THE INPUT: true; the input reads as it did. -/
def bankCopiesSpec : ChangeSpec := { name := "bankCopies", fn := fun _ => fun
  | [d1, d2, d3] => { results := [.lit (.bool true)], args := [d1, d2, d3] }
  | _ => none }
def bankCopiesRow : OpenClaim := { program := "ytkfnjpmigifomaadoor", sum := "0e85df03ca017cabc2545550d7dd8ed9434e3e25c2bf3b8871c9f7cbafb7b96c", func := "donjon/donjonlaw02.BankCopies", spec := "bankCopies", unfollowed := true, recurses := true, named := ["donjon/place.limits"], apart := false, laid := [("donjon/place.limits", laid_donjon_place_limits)] }
def BankCopiesSaid : Prop := bankCopiesRow.holds Tryd.pinned (OpenSpec.ofChange bankCopiesSpec)

/-- ITS FALSE NEIGHBOUR: 'it returns false'. Refute it at one input. -/
def bankCopiesWrong : ChangeSpec := { name := "bankCopies", fn := fun _ => fun
  | [d1, d2, d3] => { results := [.lit (.bool false)], args := [d1, d2, d3] }
  | _ => none }
def BankCopiesWrongFalsely : Prop := bankCopiesRow.holds Tryd.pinned (OpenSpec.ofChange bankCopiesWrong)

/-- 'donjonlaw05.FabricOnce': WHATEVER THE INPUT: true; the input reads as it did. -/
def fabricOnceSpec : ChangeSpec := { name := "fabricOnce", fn := fun _ => fun
  | [d1, d2] => { results := [.lit (.bool true)], args := [d1, d2] }
  | _ => none }
def fabricOnceRow : OpenClaim := { program := "ytkfnjpmigifomaadoor", sum := "0e85df03ca017cabc2545550d7dd8ed9434e3e25c2bf3b8871c9f7cbafb7b96c", func := "donjon/donjonlaw05.FabricOnce", spec := "fabricOnce", unfollowed := true, recurses := true, named := ["donjon/place.limits", "donjon/note.kinds"], apart := false, laid := [("donjon/place.limits", laid_donjon_place_limits), ("donjon/note.kinds", laid_donjon_note_kinds)] }
def FabricOnceSaid : Prop := fabricOnceRow.holds Tryd.pinned (OpenSpec.ofChange fabricOnceSpec)

/-- ITS FALSE NEIGHBOUR: 'it returns false'. Refute it at one input. -/
def fabricOnceWrong : ChangeSpec := { name := "fabricOnce", fn := fun _ => fun
  | [d1, d2] => { results := [.lit (.bool false)], args := [d1, d2] }
  | _ => none }
def FabricOnceWrongFalsely : Prop := fabricOnceRow.holds Tryd.pinned (OpenSpec.ofChange fabricOnceWrong)

/-- 'donjonlaw05.FabricCopies': WHATEVER THE INPUT: true; the input reads as it did. -/
def fabricCopiesSpec : ChangeSpec := { name := "fabricCopies", fn := fun _ => fun
  | [d1, d2, d3] => { results := [.lit (.bool true)], args := [d1, d2, d3] }
  | _ => none }
def fabricCopiesRow : OpenClaim := { program := "ytkfnjpmigifomaadoor", sum := "0e85df03ca017cabc2545550d7dd8ed9434e3e25c2bf3b8871c9f7cbafb7b96c", func := "donjon/donjonlaw05.FabricCopies", spec := "fabricCopies", unfollowed := true, recurses := true, named := ["donjon/place.limits", "donjon/note.kinds"], apart := false, laid := [("donjon/place.limits", laid_donjon_place_limits), ("donjon/note.kinds", laid_donjon_note_kinds)] }
def FabricCopiesSaid : Prop := fabricCopiesRow.holds Tryd.pinned (OpenSpec.ofChange fabricCopiesSpec)

/-- ITS FALSE NEIGHBOUR: 'it returns false'. Refute it at one input. -/
def fabricCopiesWrong : ChangeSpec := { name := "fabricCopies", fn := fun _ => fun
  | [d1, d2, d3] => { results := [.lit (.bool false)], args := [d1, d2, d3] }
  | _ => none }
def FabricCopiesWrongFalsely : Prop := fabricCopiesRow.holds Tryd.pinned (OpenSpec.ofChange fabricCopiesWrong)

/-- 'donjonlaw06.MoesiStates': WHATEVER THE INPUT: true; the input reads as it did. -/
def moesiStatesSpec : ChangeSpec := { name := "moesiStates", fn := fun _ => fun
  | [d] => { results := [.lit (.bool true)], args := [d] }
  | _ => none }
def moesiStatesRow : OpenClaim := { program := "ytkfnjpmigifomaadoor", sum := "0e85df03ca017cabc2545550d7dd8ed9434e3e25c2bf3b8871c9f7cbafb7b96c", func := "donjon/donjonlaw06.MoesiStates", spec := "moesiStates", named := ["donjon/moesi.rows"], apart := false, laid := [("donjon/moesi.rows", laid_donjon_moesi_rows)] }
def MoesiStatesSaid : Prop := moesiStatesRow.holds Tryd.pinned (OpenSpec.ofChange moesiStatesSpec)

/-- ITS FALSE NEIGHBOUR: 'it returns false'. Refute it at one input. -/
def moesiStatesWrong : ChangeSpec := { name := "moesiStates", fn := fun _ => fun
  | [d] => { results := [.lit (.bool false)], args := [d] }
  | _ => none }
def MoesiStatesWrongFalsely : Prop := moesiStatesRow.holds Tryd.pinned (OpenSpec.ofChange moesiStatesWrong)

/- THE SECOND FORM. 'bulk': how many values and letters a reading holds, each counted each time it is reached (what is shared counts as often as it is met; a slice's spare places count too). A statement '..UptoSaid' is the law's where the arguments, and the package variables that the reading takes, are together of bulk at most 1048576: NARROWER than '..Said'. Prove '..Said' where nothing that the law and all that it calls make is longer than what came in: it says more and counts as full. Else prove '..UptoSaid'. A law counts once. -/
mutual
def uptoBulk {H : Type} : DataW H → Nat
  | .lit (.string bytes) => bytes.length + 1
  | .lit _ => 1
  | .nil => 1
  | .ptr d => uptoBulk d + 1
  | .slice elems spare => uptoBulkAll elems + uptoBulkAll spare + 1
  | .agg parts => uptoBulkAll parts + 1
  | .iface _ d => uptoBulk d + 1
  | .map entries => uptoBulkEntries entries + 1
  | .held _ => 1
def uptoBulkAll {H : Type} : List (DataW H) → Nat
  | [] => 0
  | d :: r => uptoBulk d + uptoBulkAll r
def uptoBulkEntries {H : Type} : List (Lit × DataW H) → Nat
  | [] => 0
  | x :: r => uptoBulkEntry x + uptoBulkEntries r
def uptoBulkEntry {H : Type} : Lit × DataW H → Nat
  | (.string bytes, d) => bytes.length + uptoBulk d + 1
  | (_, d) => uptoBulk d + 1
 end
def uptoSmall : (H : Type) → List (DataW H) → Bool := fun _ ds => decide (uptoBulkAll ds ≤ 1048576)
def OpenSpec.upto (s : _root_.Go.ChangeSpec) : _root_.Go.OpenSpec := { _root_.Go.OpenSpec.ofChange s with cond := some uptoSmall }

/-- 'donjonlaw02.BankApart', WHERE WHAT IT READS IS OF BULK AT MOST 1048576: true; the input reads as it did. -/
def bankApartUptoRow : OpenClaim := { program := "ytkfnjpmigifomaadoor", sum := "0e85df03ca017cabc2545550d7dd8ed9434e3e25c2bf3b8871c9f7cbafb7b96c", func := "donjon/donjonlaw02.BankApart", spec := "bankApart", unfollowed := true, recurses := true, named := ["donjon/place.limits"], apart := false, laid := [("donjon/place.limits", laid_donjon_place_limits)], narrowed := true }
def BankApartUptoSaid : Prop := bankApartUptoRow.holds Tryd.pinned (OpenSpec.upto bankApartSpec)

/-- 'donjonlaw02.BankLast', WHERE WHAT IT READS IS OF BULK AT MOST 1048576: true; the input reads as it did. -/
def bankLastUptoRow : OpenClaim := { program := "ytkfnjpmigifomaadoor", sum := "0e85df03ca017cabc2545550d7dd8ed9434e3e25c2bf3b8871c9f7cbafb7b96c", func := "donjon/donjonlaw02.BankLast", spec := "bankLast", unfollowed := true, recurses := true, named := ["donjon/place.limits"], apart := false, laid := [("donjon/place.limits", laid_donjon_place_limits)], narrowed := true }
def BankLastUptoSaid : Prop := bankLastUptoRow.holds Tryd.pinned (OpenSpec.upto bankLastSpec)

/-- 'donjonlaw02.BankCopies', WHERE WHAT IT READS IS OF BULK AT MOST 1048576: true; the input reads as it did. -/
def bankCopiesUptoRow : OpenClaim := { program := "ytkfnjpmigifomaadoor", sum := "0e85df03ca017cabc2545550d7dd8ed9434e3e25c2bf3b8871c9f7cbafb7b96c", func := "donjon/donjonlaw02.BankCopies", spec := "bankCopies", unfollowed := true, recurses := true, named := ["donjon/place.limits"], apart := false, laid := [("donjon/place.limits", laid_donjon_place_limits)], narrowed := true }
def BankCopiesUptoSaid : Prop := bankCopiesUptoRow.holds Tryd.pinned (OpenSpec.upto bankCopiesSpec)

/-- 'donjonlaw05.FabricOnce', WHERE WHAT IT READS IS OF BULK AT MOST 1048576: true; the input reads as it did. -/
def fabricOnceUptoRow : OpenClaim := { program := "ytkfnjpmigifomaadoor", sum := "0e85df03ca017cabc2545550d7dd8ed9434e3e25c2bf3b8871c9f7cbafb7b96c", func := "donjon/donjonlaw05.FabricOnce", spec := "fabricOnce", unfollowed := true, recurses := true, named := ["donjon/place.limits", "donjon/note.kinds"], apart := false, laid := [("donjon/place.limits", laid_donjon_place_limits), ("donjon/note.kinds", laid_donjon_note_kinds)], narrowed := true }
def FabricOnceUptoSaid : Prop := fabricOnceUptoRow.holds Tryd.pinned (OpenSpec.upto fabricOnceSpec)

/-- 'donjonlaw05.FabricCopies', WHERE WHAT IT READS IS OF BULK AT MOST 1048576: true; the input reads as it did. -/
def fabricCopiesUptoRow : OpenClaim := { program := "ytkfnjpmigifomaadoor", sum := "0e85df03ca017cabc2545550d7dd8ed9434e3e25c2bf3b8871c9f7cbafb7b96c", func := "donjon/donjonlaw05.FabricCopies", spec := "fabricCopies", unfollowed := true, recurses := true, named := ["donjon/place.limits", "donjon/note.kinds"], apart := false, laid := [("donjon/place.limits", laid_donjon_place_limits), ("donjon/note.kinds", laid_donjon_note_kinds)], narrowed := true }
def FabricCopiesUptoSaid : Prop := fabricCopiesUptoRow.holds Tryd.pinned (OpenSpec.upto fabricCopiesSpec)

/-- 'donjonlaw06.MoesiStates', WHERE WHAT IT READS IS OF BULK AT MOST 1048576: true; the input reads as it did. -/
def moesiStatesUptoRow : OpenClaim := { program := "ytkfnjpmigifomaadoor", sum := "0e85df03ca017cabc2545550d7dd8ed9434e3e25c2bf3b8871c9f7cbafb7b96c", func := "donjon/donjonlaw06.MoesiStates", spec := "moesiStates", named := ["donjon/moesi.rows"], apart := false, laid := [("donjon/moesi.rows", laid_donjon_moesi_rows)], narrowed := true }
def MoesiStatesUptoSaid : Prop := moesiStatesUptoRow.holds Tryd.pinned (OpenSpec.upto moesiStatesSpec)

end Rows
end Go.Proofs.YtkfnjpmigifomaaDoor
