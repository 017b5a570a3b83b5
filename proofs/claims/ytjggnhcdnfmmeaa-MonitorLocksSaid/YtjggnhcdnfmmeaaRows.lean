/-
  No cell of these rows narrows 'for every input' (looked for: loops, veiled, ifaces, maps, wideKeys, modest, calm, conditions, laid).
  DERIVED. THE GIVEN ROWS OF THIS SEAT. 7 by the template 'for every input the law returns true; each argument reads behind the call as it read before'; 0 by the template 'total and deterministic' (their statements: YtjggnhcdnfmmeaaTotals.lean).
  GIVEN WITH THE SEED: the statements are not yours to turn. If you find one false, say at which input.
  Laid BY PROGRAM, IN A SANDBOX (cutbox-rows.mjs): the forced cells as the released guide's own fill.sh prints them over the translation 0f17c7a8b2bbe3c1… (all of the seat's roots in one cut). By AI agents, Wed Nov 11 2026. No macro, syntax, notation, axiom, sorry.
-/
import Derived.Test.YtjggnhcdnfmmeaaChecked
import GoSem.Claim
import GoSem.ClaimJoined
import GoSem.ClaimMapViews
import Derived.JoinedTies
import Derived.KernelRfl
namespace Go.Proofs.Ytjggnhcdnfmmeaa
/- THE CELL 'sum', in the pinned program and in every row, IS THE sha256 OF THE DUMP (.gsa) THAT YtjggnhcdnfmmeaaProg.lean LOADS. Nothing in Lean hashes anything: it is a label: what it is worth is what the hold of that sum in a sandbox is worth. -/
noncomputable def Try.pinned : Pinned := { name := "ytjggnhcdnfmmeaa", sum := "0f17c7a8b2bbe3c1772a13d647dc5097d0f660f32a2f282a9e91e8b8b8c83ad9", checked := Try.checked }
namespace Rows
def none {H : Type} : Left H := { results := [], args := [] }

/-- 'donjonlaw09.CheckerWorlds': WHATEVER THE INPUT: true; the input reads as it did. -/
def checkerWorldsSpec : ChangeSpec := { name := "checkerWorlds", fn := fun _ => fun
  | [d1, d2, d3] => { results := [.lit (.bool true)], args := [d1, d2, d3] }
  | _ => none }
def checkerWorldsRow : OpenClaim := { program := "ytjggnhcdnfmmeaa", sum := "0f17c7a8b2bbe3c1772a13d647dc5097d0f660f32a2f282a9e91e8b8b8c83ad9", func := "donjon/donjonlaw09.CheckerWorlds", spec := "checkerWorlds", unfollowed := true, recurses := true, apart := false }
def CheckerWorldsSaid : Prop := checkerWorldsRow.holds Try.pinned (OpenSpec.ofChange checkerWorldsSpec)

/-- ITS FALSE NEIGHBOUR: 'it returns false'. Refute it at one input. -/
def checkerWorldsWrong : ChangeSpec := { name := "checkerWorlds", fn := fun _ => fun
  | [d1, d2, d3] => { results := [.lit (.bool false)], args := [d1, d2, d3] }
  | _ => none }
def CheckerWorldsWrongFalsely : Prop := checkerWorldsRow.holds Try.pinned (OpenSpec.ofChange checkerWorldsWrong)

/-- 'donjonlaw09.CheckerNil': WHATEVER THE INPUT: true; the input reads as it did. -/
def checkerNilSpec : ChangeSpec := { name := "checkerNil", fn := fun _ => fun
  | [d] => { results := [.lit (.bool true)], args := [d] }
  | _ => none }
def checkerNilRow : OpenClaim := { program := "ytjggnhcdnfmmeaa", sum := "0f17c7a8b2bbe3c1772a13d647dc5097d0f660f32a2f282a9e91e8b8b8c83ad9", func := "donjon/donjonlaw09.CheckerNil", spec := "checkerNil", unfollowed := true, recurses := true, apart := false }
def CheckerNilSaid : Prop := checkerNilRow.holds Try.pinned (OpenSpec.ofChange checkerNilSpec)

/-- ITS FALSE NEIGHBOUR: 'it returns false'. Refute it at one input. -/
def checkerNilWrong : ChangeSpec := { name := "checkerNil", fn := fun _ => fun
  | [d] => { results := [.lit (.bool false)], args := [d] }
  | _ => none }
def CheckerNilWrongFalsely : Prop := checkerNilRow.holds Try.pinned (OpenSpec.ofChange checkerNilWrong)

/-- 'donjonlaw09.CheckerLearns': WHATEVER THE INPUT: true; the input reads as it did. -/
def checkerLearnsSpec : ChangeSpec := { name := "checkerLearns", fn := fun _ => fun
  | [d1, d2, d3] => { results := [.lit (.bool true)], args := [d1, d2, d3] }
  | _ => none }
def checkerLearnsRow : OpenClaim := { program := "ytjggnhcdnfmmeaa", sum := "0f17c7a8b2bbe3c1772a13d647dc5097d0f660f32a2f282a9e91e8b8b8c83ad9", func := "donjon/donjonlaw09.CheckerLearns", spec := "checkerLearns", unfollowed := true, recurses := true, apart := false }
def CheckerLearnsSaid : Prop := checkerLearnsRow.holds Try.pinned (OpenSpec.ofChange checkerLearnsSpec)

/-- ITS FALSE NEIGHBOUR: 'it returns false'. Refute it at one input. -/
def checkerLearnsWrong : ChangeSpec := { name := "checkerLearns", fn := fun _ => fun
  | [d1, d2, d3] => { results := [.lit (.bool false)], args := [d1, d2, d3] }
  | _ => none }
def CheckerLearnsWrongFalsely : Prop := checkerLearnsRow.holds Try.pinned (OpenSpec.ofChange checkerLearnsWrong)

/-- 'donjonlaw09.CheckerFresh': WHATEVER THE INPUT: true; the input reads as it did. -/
def checkerFreshSpec : ChangeSpec := { name := "checkerFresh", fn := fun _ => fun
  | [d1, d2] => { results := [.lit (.bool true)], args := [d1, d2] }
  | _ => none }
def checkerFreshRow : OpenClaim := { program := "ytjggnhcdnfmmeaa", sum := "0f17c7a8b2bbe3c1772a13d647dc5097d0f660f32a2f282a9e91e8b8b8c83ad9", func := "donjon/donjonlaw09.CheckerFresh", spec := "checkerFresh", unfollowed := true, recurses := true, apart := false }
def CheckerFreshSaid : Prop := checkerFreshRow.holds Try.pinned (OpenSpec.ofChange checkerFreshSpec)

/-- ITS FALSE NEIGHBOUR: 'it returns false'. Refute it at one input. -/
def checkerFreshWrong : ChangeSpec := { name := "checkerFresh", fn := fun _ => fun
  | [d1, d2] => { results := [.lit (.bool false)], args := [d1, d2] }
  | _ => none }
def CheckerFreshWrongFalsely : Prop := checkerFreshRow.holds Try.pinned (OpenSpec.ofChange checkerFreshWrong)

/-- 'donjonlaw14.MonitorLocks': WHATEVER THE INPUT: true; the input reads as it did. -/
def monitorLocksSpec : ChangeSpec := { name := "monitorLocks", fn := fun _ => fun
  | [d1, d2] => { results := [.lit (.bool true)], args := [d1, d2] }
  | _ => none }
def monitorLocksRow : OpenClaim := { program := "ytjggnhcdnfmmeaa", sum := "0f17c7a8b2bbe3c1772a13d647dc5097d0f660f32a2f282a9e91e8b8b8c83ad9", func := "donjon/donjonlaw14.MonitorLocks", spec := "monitorLocks", unfollowed := true, recurses := true, apart := false }
def MonitorLocksSaid : Prop := monitorLocksRow.holds Try.pinned (OpenSpec.ofChange monitorLocksSpec)

/-- ITS FALSE NEIGHBOUR: 'it returns false'. Refute it at one input. -/
def monitorLocksWrong : ChangeSpec := { name := "monitorLocks", fn := fun _ => fun
  | [d1, d2] => { results := [.lit (.bool false)], args := [d1, d2] }
  | _ => none }
def MonitorLocksWrongFalsely : Prop := monitorLocksRow.holds Try.pinned (OpenSpec.ofChange monitorLocksWrong)

/-- 'donjonlaw14.MonitorWhole': WHATEVER THE INPUT: true; the input reads as it did. -/
def monitorWholeSpec : ChangeSpec := { name := "monitorWhole", fn := fun _ => fun
  | [d1, d2, d3] => { results := [.lit (.bool true)], args := [d1, d2, d3] }
  | _ => none }
def monitorWholeRow : OpenClaim := { program := "ytjggnhcdnfmmeaa", sum := "0f17c7a8b2bbe3c1772a13d647dc5097d0f660f32a2f282a9e91e8b8b8c83ad9", func := "donjon/donjonlaw14.MonitorWhole", spec := "monitorWhole", unfollowed := true, recurses := true, apart := false }
def MonitorWholeSaid : Prop := monitorWholeRow.holds Try.pinned (OpenSpec.ofChange monitorWholeSpec)

/-- ITS FALSE NEIGHBOUR: 'it returns false'. Refute it at one input. -/
def monitorWholeWrong : ChangeSpec := { name := "monitorWhole", fn := fun _ => fun
  | [d1, d2, d3] => { results := [.lit (.bool false)], args := [d1, d2, d3] }
  | _ => none }
def MonitorWholeWrongFalsely : Prop := monitorWholeRow.holds Try.pinned (OpenSpec.ofChange monitorWholeWrong)

/-- 'donjonlaw14.MonitorTwo': WHATEVER THE INPUT: true; the input reads as it did. -/
def monitorTwoSpec : ChangeSpec := { name := "monitorTwo", fn := fun _ => fun
  | [d1, d2, d3] => { results := [.lit (.bool true)], args := [d1, d2, d3] }
  | _ => none }
def monitorTwoRow : OpenClaim := { program := "ytjggnhcdnfmmeaa", sum := "0f17c7a8b2bbe3c1772a13d647dc5097d0f660f32a2f282a9e91e8b8b8c83ad9", func := "donjon/donjonlaw14.MonitorTwo", spec := "monitorTwo", unfollowed := true, recurses := true, apart := false }
def MonitorTwoSaid : Prop := monitorTwoRow.holds Try.pinned (OpenSpec.ofChange monitorTwoSpec)

/-- ITS FALSE NEIGHBOUR: 'it returns false'. Refute it at one input. -/
def monitorTwoWrong : ChangeSpec := { name := "monitorTwo", fn := fun _ => fun
  | [d1, d2, d3] => { results := [.lit (.bool false)], args := [d1, d2, d3] }
  | _ => none }
def MonitorTwoWrongFalsely : Prop := monitorTwoRow.holds Try.pinned (OpenSpec.ofChange monitorTwoWrong)

/- THE SECOND FORM. 'bulk': how many values and letters a reading holds, each counted each time it is reached (what is shared counts as often as it is met; a slice's spare places count too). A statement '..UptoSaid' is the law's where the arguments, and the package variables that the reading takes, are together of bulk at most 1048576: NARROWER than '..Said'. Prove '..Said' where nothing that the law and all that it calls make is longer than what came in: it says more and counts as full. Else prove '..UptoSaid'. A law counts once. -/
mutual
def uptoBulk {H : Type} : DataW H → Nat
  | .lit (.string bytes) => bytes.length + 1
  | .lit _ => 1
  | .nil => 1
  | .ptr d => uptoBulk d + 1
  | .slice elems spare => uptoBulkAll elems + uptoBulkAll spare + 1
  | .agg parts => uptoBulkAll parts + 1
  | .iface _ d => uptoBulk d + 1
  | .map entries => uptoBulkEntries entries + 1
  | .held _ => 1
def uptoBulkAll {H : Type} : List (DataW H) → Nat
  | [] => 0
  | d :: r => uptoBulk d + uptoBulkAll r
def uptoBulkEntries {H : Type} : List (Lit × DataW H) → Nat
  | [] => 0
  | x :: r => uptoBulkEntry x + uptoBulkEntries r
def uptoBulkEntry {H : Type} : Lit × DataW H → Nat
  | (.string bytes, d) => bytes.length + uptoBulk d + 1
  | (_, d) => uptoBulk d + 1
 end
def uptoSmall : (H : Type) → List (DataW H) → Bool := fun _ ds => decide (uptoBulkAll ds ≤ 1048576)
def OpenSpec.upto (s : _root_.Go.ChangeSpec) : _root_.Go.OpenSpec := { _root_.Go.OpenSpec.ofChange s with cond := some uptoSmall }

/-- 'donjonlaw09.CheckerWorlds', WHERE WHAT IT READS IS OF BULK AT MOST 1048576: true; the input reads as it did. -/
def checkerWorldsUptoRow : OpenClaim := { program := "ytjggnhcdnfmmeaa", sum := "0f17c7a8b2bbe3c1772a13d647dc5097d0f660f32a2f282a9e91e8b8b8c83ad9", func := "donjon/donjonlaw09.CheckerWorlds", spec := "checkerWorlds", unfollowed := true, recurses := true, apart := false, narrowed := true }
def CheckerWorldsUptoSaid : Prop := checkerWorldsUptoRow.holds Try.pinned (OpenSpec.upto checkerWorldsSpec)

/-- 'donjonlaw09.CheckerNil', WHERE WHAT IT READS IS OF BULK AT MOST 1048576: true; the input reads as it did. -/
def checkerNilUptoRow : OpenClaim := { program := "ytjggnhcdnfmmeaa", sum := "0f17c7a8b2bbe3c1772a13d647dc5097d0f660f32a2f282a9e91e8b8b8c83ad9", func := "donjon/donjonlaw09.CheckerNil", spec := "checkerNil", unfollowed := true, recurses := true, apart := false, narrowed := true }
def CheckerNilUptoSaid : Prop := checkerNilUptoRow.holds Try.pinned (OpenSpec.upto checkerNilSpec)

/-- 'donjonlaw09.CheckerLearns', WHERE WHAT IT READS IS OF BULK AT MOST 1048576: true; the input reads as it did. -/
def checkerLearnsUptoRow : OpenClaim := { program := "ytjggnhcdnfmmeaa", sum := "0f17c7a8b2bbe3c1772a13d647dc5097d0f660f32a2f282a9e91e8b8b8c83ad9", func := "donjon/donjonlaw09.CheckerLearns", spec := "checkerLearns", unfollowed := true, recurses := true, apart := false, narrowed := true }
def CheckerLearnsUptoSaid : Prop := checkerLearnsUptoRow.holds Try.pinned (OpenSpec.upto checkerLearnsSpec)

/-- 'donjonlaw09.CheckerFresh', WHERE WHAT IT READS IS OF BULK AT MOST 1048576: true; the input reads as it did. -/
def checkerFreshUptoRow : OpenClaim := { program := "ytjggnhcdnfmmeaa", sum := "0f17c7a8b2bbe3c1772a13d647dc5097d0f660f32a2f282a9e91e8b8b8c83ad9", func := "donjon/donjonlaw09.CheckerFresh", spec := "checkerFresh", unfollowed := true, recurses := true, apart := false, narrowed := true }
def CheckerFreshUptoSaid : Prop := checkerFreshUptoRow.holds Try.pinned (OpenSpec.upto checkerFreshSpec)

/-- 'donjonlaw14.MonitorLocks', WHERE WHAT IT READS IS OF BULK AT MOST 1048576: true; the input reads as it did. -/
def monitorLocksUptoRow : OpenClaim := { program := "ytjggnhcdnfmmeaa", sum := "0f17c7a8b2bbe3c1772a13d647dc5097d0f660f32a2f282a9e91e8b8b8c83ad9", func := "donjon/donjonlaw14.MonitorLocks", spec := "monitorLocks", unfollowed := true, recurses := true, apart := false, narrowed := true }
def MonitorLocksUptoSaid : Prop := monitorLocksUptoRow.holds Try.pinned (OpenSpec.upto monitorLocksSpec)

/-- 'donjonlaw14.MonitorWhole', WHERE WHAT IT READS IS OF BULK AT MOST 1048576: true; the input reads as it did. -/
def monitorWholeUptoRow : OpenClaim := { program := "ytjggnhcdnfmmeaa", sum := "0f17c7a8b2bbe3c1772a13d647dc5097d0f660f32a2f282a9e91e8b8b8c83ad9", func := "donjon/donjonlaw14.MonitorWhole", spec := "monitorWhole", unfollowed := true, recurses := true, apart := false, narrowed := true }
def MonitorWholeUptoSaid : Prop := monitorWholeUptoRow.holds Try.pinned (OpenSpec.upto monitorWholeSpec)

/-- 'donjonlaw14.MonitorTwo', WHERE WHAT IT READS IS OF BULK AT MOST 1048576: true; the input reads as it did. -/
def monitorTwoUptoRow : OpenClaim := { program := "ytjggnhcdnfmmeaa", sum := "0f17c7a8b2bbe3c1772a13d647dc5097d0f660f32a2f282a9e91e8b8b8c83ad9", func := "donjon/donjonlaw14.MonitorTwo", spec := "monitorTwo", unfollowed := true, recurses := true, apart := false, narrowed := true }
def MonitorTwoUptoSaid : Prop := monitorTwoUptoRow.holds Try.pinned (OpenSpec.upto monitorTwoSpec)

end Rows
end Go.Proofs.Ytjggnhcdnfmmeaa
