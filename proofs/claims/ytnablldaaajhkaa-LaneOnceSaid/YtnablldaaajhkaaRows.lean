/-
  No cell of these rows narrows 'for every input' (looked for: loops, veiled, ifaces, maps, wideKeys, modest, calm, conditions, laid).
  DERIVED. THE GIVEN ROWS OF THIS SEAT. 10 by the template 'for every input the law returns true; each argument reads behind the call as it read before'; 0 by the template 'total and deterministic' (their statements: YtnablldaaajhkaaTotals.lean).
  GIVEN WITH THE SEED: the statements are not yours to turn. If you find one false, say at which input.
  Laid BY PROGRAM, IN A SANDBOX (cutbox-rows.mjs): the forced cells as the released guide's own fill.sh prints them over the translation 51bdabfd74c07f02… (all of the seat's roots in one cut). By AI agents, Wed Nov 11 2026. No macro, syntax, notation, axiom, sorry.
-/
import Derived.Test.YtnablldaaajhkaaChecked
import GoSem.Claim
import GoSem.ClaimJoined
import GoSem.ClaimMapViews
import Derived.JoinedTies
import Derived.KernelRfl
namespace Go.Proofs.Ytnablldaaajhkaa
/- THE CELL 'sum', in the pinned program and in every row, IS THE sha256 OF THE DUMP (.gsa) THAT YtnablldaaajhkaaProg.lean LOADS. Nothing in Lean hashes anything: it is a label: what it is worth is what the hold of that sum in a sandbox is worth. -/
noncomputable def Try.pinned : Pinned := { name := "ytnablldaaajhkaa", sum := "51bdabfd74c07f02d5d9fb858792ddff05041a9e5050b65902aaba1ee786bd3a", checked := Try.checked }
namespace Rows
def none {H : Type} : Left H := { results := [], args := [] }

/-- 'donjonlaw08.TableMay': WHATEVER THE INPUT: true; the input reads as it did. -/
def tableMaySpec : ChangeSpec := { name := "tableMay", fn := fun _ => fun
  | [d1, d2] => { results := [.lit (.bool true)], args := [d1, d2] }
  | _ => none }
def tableMayRow : OpenClaim := { program := "ytnablldaaajhkaa", sum := "51bdabfd74c07f02d5d9fb858792ddff05041a9e5050b65902aaba1ee786bd3a", func := "donjon/donjonlaw08.TableMay", spec := "tableMay", unfollowed := true, recurses := true, apart := false }
def TableMaySaid : Prop := tableMayRow.holds Try.pinned (OpenSpec.ofChange tableMaySpec)

/-- ITS FALSE NEIGHBOUR: 'it returns false'. Refute it at one input. -/
def tableMayWrong : ChangeSpec := { name := "tableMay", fn := fun _ => fun
  | [d1, d2] => { results := [.lit (.bool false)], args := [d1, d2] }
  | _ => none }
def TableMayWrongFalsely : Prop := tableMayRow.holds Try.pinned (OpenSpec.ofChange tableMayWrong)

/-- 'donjonlaw04.LanePlays': WHATEVER THE INPUT: true; the input reads as it did. -/
def lanePlaysSpec : ChangeSpec := { name := "lanePlays", fn := fun _ => fun
  | [d1, d2] => { results := [.lit (.bool true)], args := [d1, d2] }
  | _ => none }
def lanePlaysRow : OpenClaim := { program := "ytnablldaaajhkaa", sum := "51bdabfd74c07f02d5d9fb858792ddff05041a9e5050b65902aaba1ee786bd3a", func := "donjon/donjonlaw04.LanePlays", spec := "lanePlays", unfollowed := true, recurses := true, apart := false }
def LanePlaysSaid : Prop := lanePlaysRow.holds Try.pinned (OpenSpec.ofChange lanePlaysSpec)

/-- ITS FALSE NEIGHBOUR: 'it returns false'. Refute it at one input. -/
def lanePlaysWrong : ChangeSpec := { name := "lanePlays", fn := fun _ => fun
  | [d1, d2] => { results := [.lit (.bool false)], args := [d1, d2] }
  | _ => none }
def LanePlaysWrongFalsely : Prop := lanePlaysRow.holds Try.pinned (OpenSpec.ofChange lanePlaysWrong)

/-- 'donjonlaw04.LaneOnce': WHATEVER THE INPUT: true; the input reads as it did. -/
def laneOnceSpec : ChangeSpec := { name := "laneOnce", fn := fun _ => fun
  | [d1, d2] => { results := [.lit (.bool true)], args := [d1, d2] }
  | _ => none }
def laneOnceRow : OpenClaim := { program := "ytnablldaaajhkaa", sum := "51bdabfd74c07f02d5d9fb858792ddff05041a9e5050b65902aaba1ee786bd3a", func := "donjon/donjonlaw04.LaneOnce", spec := "laneOnce", unfollowed := true, recurses := true, apart := false }
def LaneOnceSaid : Prop := laneOnceRow.holds Try.pinned (OpenSpec.ofChange laneOnceSpec)

/-- ITS FALSE NEIGHBOUR: 'it returns false'. Refute it at one input. -/
def laneOnceWrong : ChangeSpec := { name := "laneOnce", fn := fun _ => fun
  | [d1, d2] => { results := [.lit (.bool false)], args := [d1, d2] }
  | _ => none }
def LaneOnceWrongFalsely : Prop := laneOnceRow.holds Try.pinned (OpenSpec.ofChange laneOnceWrong)

/-- 'donjonlaw04.LaneParts': WHATEVER THE INPUT: true; the input reads as it did. -/
def lanePartsSpec : ChangeSpec := { name := "laneParts", fn := fun _ => fun
  | [d1, d2, d3] => { results := [.lit (.bool true)], args := [d1, d2, d3] }
  | _ => none }
def lanePartsRow : OpenClaim := { program := "ytnablldaaajhkaa", sum := "51bdabfd74c07f02d5d9fb858792ddff05041a9e5050b65902aaba1ee786bd3a", func := "donjon/donjonlaw04.LaneParts", spec := "laneParts", unfollowed := true, recurses := true, apart := false }
def LanePartsSaid : Prop := lanePartsRow.holds Try.pinned (OpenSpec.ofChange lanePartsSpec)

/-- ITS FALSE NEIGHBOUR: 'it returns false'. Refute it at one input. -/
def lanePartsWrong : ChangeSpec := { name := "laneParts", fn := fun _ => fun
  | [d1, d2, d3] => { results := [.lit (.bool false)], args := [d1, d2, d3] }
  | _ => none }
def LanePartsWrongFalsely : Prop := lanePartsRow.holds Try.pinned (OpenSpec.ofChange lanePartsWrong)

/-- 'donjonlaw08.TableBack': WHATEVER THE INPUT: true; the input reads as it did. -/
def tableBackSpec : ChangeSpec := { name := "tableBack", fn := fun _ => fun
  | [d1, d2, d3] => { results := [.lit (.bool true)], args := [d1, d2, d3] }
  | _ => none }
def tableBackRow : OpenClaim := { program := "ytnablldaaajhkaa", sum := "51bdabfd74c07f02d5d9fb858792ddff05041a9e5050b65902aaba1ee786bd3a", func := "donjon/donjonlaw08.TableBack", spec := "tableBack", unfollowed := true, recurses := true, apart := false }
def TableBackSaid : Prop := tableBackRow.holds Try.pinned (OpenSpec.ofChange tableBackSpec)

/-- ITS FALSE NEIGHBOUR: 'it returns false'. Refute it at one input. -/
def tableBackWrong : ChangeSpec := { name := "tableBack", fn := fun _ => fun
  | [d1, d2, d3] => { results := [.lit (.bool false)], args := [d1, d2, d3] }
  | _ => none }
def TableBackWrongFalsely : Prop := tableBackRow.holds Try.pinned (OpenSpec.ofChange tableBackWrong)

/-- 'donjonlaw04.LaneCopies': WHATEVER THE INPUT: true; the input reads as it did. -/
def laneCopiesSpec : ChangeSpec := { name := "laneCopies", fn := fun _ => fun
  | [d1, d2, d3] => { results := [.lit (.bool true)], args := [d1, d2, d3] }
  | _ => none }
def laneCopiesRow : OpenClaim := { program := "ytnablldaaajhkaa", sum := "51bdabfd74c07f02d5d9fb858792ddff05041a9e5050b65902aaba1ee786bd3a", func := "donjon/donjonlaw04.LaneCopies", spec := "laneCopies", unfollowed := true, recurses := true, apart := false }
def LaneCopiesSaid : Prop := laneCopiesRow.holds Try.pinned (OpenSpec.ofChange laneCopiesSpec)

/-- ITS FALSE NEIGHBOUR: 'it returns false'. Refute it at one input. -/
def laneCopiesWrong : ChangeSpec := { name := "laneCopies", fn := fun _ => fun
  | [d1, d2, d3] => { results := [.lit (.bool false)], args := [d1, d2, d3] }
  | _ => none }
def LaneCopiesWrongFalsely : Prop := laneCopiesRow.holds Try.pinned (OpenSpec.ofChange laneCopiesWrong)

/-- 'donjonlaw08.TableWalks': WHATEVER THE INPUT: true; the input reads as it did. -/
def tableWalksSpec : ChangeSpec := { name := "tableWalks", fn := fun _ => fun
  | [d1, d2] => { results := [.lit (.bool true)], args := [d1, d2] }
  | _ => none }
def tableWalksRow : OpenClaim := { program := "ytnablldaaajhkaa", sum := "51bdabfd74c07f02d5d9fb858792ddff05041a9e5050b65902aaba1ee786bd3a", func := "donjon/donjonlaw08.TableWalks", spec := "tableWalks", unfollowed := true, recurses := true, apart := false }
def TableWalksSaid : Prop := tableWalksRow.holds Try.pinned (OpenSpec.ofChange tableWalksSpec)

/-- ITS FALSE NEIGHBOUR: 'it returns false'. Refute it at one input. -/
def tableWalksWrong : ChangeSpec := { name := "tableWalks", fn := fun _ => fun
  | [d1, d2] => { results := [.lit (.bool false)], args := [d1, d2] }
  | _ => none }
def TableWalksWrongFalsely : Prop := tableWalksRow.holds Try.pinned (OpenSpec.ofChange tableWalksWrong)

/-- 'donjonlaw08.TableWords': WHATEVER THE INPUT: true; the input reads as it did. -/
def tableWordsSpec : ChangeSpec := { name := "tableWords", fn := fun _ => fun
  | [d1, d2] => { results := [.lit (.bool true)], args := [d1, d2] }
  | _ => none }
def tableWordsRow : OpenClaim := { program := "ytnablldaaajhkaa", sum := "51bdabfd74c07f02d5d9fb858792ddff05041a9e5050b65902aaba1ee786bd3a", func := "donjon/donjonlaw08.TableWords", spec := "tableWords", unfollowed := true, recurses := true, apart := false }
def TableWordsSaid : Prop := tableWordsRow.holds Try.pinned (OpenSpec.ofChange tableWordsSpec)

/-- ITS FALSE NEIGHBOUR: 'it returns false'. Refute it at one input. -/
def tableWordsWrong : ChangeSpec := { name := "tableWords", fn := fun _ => fun
  | [d1, d2] => { results := [.lit (.bool false)], args := [d1, d2] }
  | _ => none }
def TableWordsWrongFalsely : Prop := tableWordsRow.holds Try.pinned (OpenSpec.ofChange tableWordsWrong)

/-- 'donjonlaw08.TableNil': WHATEVER THE INPUT: true; the input reads as it did. -/
def tableNilSpec : ChangeSpec := { name := "tableNil", fn := fun _ => fun
  | [d1, d2] => { results := [.lit (.bool true)], args := [d1, d2] }
  | _ => none }
def tableNilRow : OpenClaim := { program := "ytnablldaaajhkaa", sum := "51bdabfd74c07f02d5d9fb858792ddff05041a9e5050b65902aaba1ee786bd3a", func := "donjon/donjonlaw08.TableNil", spec := "tableNil", unfollowed := true, recurses := true, apart := false }
def TableNilSaid : Prop := tableNilRow.holds Try.pinned (OpenSpec.ofChange tableNilSpec)

/-- ITS FALSE NEIGHBOUR: 'it returns false'. Refute it at one input. -/
def tableNilWrong : ChangeSpec := { name := "tableNil", fn := fun _ => fun
  | [d1, d2] => { results := [.lit (.bool false)], args := [d1, d2] }
  | _ => none }
def TableNilWrongFalsely : Prop := tableNilRow.holds Try.pinned (OpenSpec.ofChange tableNilWrong)

/-- 'donjonlaw08.TableApart': WHATEVER THE INPUT: true; the input reads as it did. -/
def tableApartSpec : ChangeSpec := { name := "tableApart", fn := fun _ => fun
  | [d1, d2, d3] => { results := [.lit (.bool true)], args := [d1, d2, d3] }
  | _ => none }
def tableApartRow : OpenClaim := { program := "ytnablldaaajhkaa", sum := "51bdabfd74c07f02d5d9fb858792ddff05041a9e5050b65902aaba1ee786bd3a", func := "donjon/donjonlaw08.TableApart", spec := "tableApart", unfollowed := true, recurses := true, apart := false }
def TableApartSaid : Prop := tableApartRow.holds Try.pinned (OpenSpec.ofChange tableApartSpec)

/-- ITS FALSE NEIGHBOUR: 'it returns false'. Refute it at one input. -/
def tableApartWrong : ChangeSpec := { name := "tableApart", fn := fun _ => fun
  | [d1, d2, d3] => { results := [.lit (.bool false)], args := [d1, d2, d3] }
  | _ => none }
def TableApartWrongFalsely : Prop := tableApartRow.holds Try.pinned (OpenSpec.ofChange tableApartWrong)

/- THE SECOND FORM. 'bulk': how many values and letters a reading holds, each counted each time it is reached (what is shared counts as often as it is met; a slice's spare places count too). A statement '..UptoSaid' is the law's where the arguments, and the package variables that the reading takes, are together of bulk at most 1048576: NARROWER than '..Said'. Prove '..Said' where nothing that the law and all that it calls make is longer than what came in: it says more and counts as full. Else prove '..UptoSaid'. A law counts once. -/
mutual
def uptoBulk {H : Type} : DataW H → Nat
  | .lit (.string bytes) => bytes.length + 1
  | .lit _ => 1
  | .nil => 1
  | .ptr d => uptoBulk d + 1
  | .slice elems spare => uptoBulkAll elems + uptoBulkAll spare + 1
  | .agg parts => uptoBulkAll parts + 1
  | .iface _ d => uptoBulk d + 1
  | .map entries => uptoBulkEntries entries + 1
  | .held _ => 1
def uptoBulkAll {H : Type} : List (DataW H) → Nat
  | [] => 0
  | d :: r => uptoBulk d + uptoBulkAll r
def uptoBulkEntries {H : Type} : List (Lit × DataW H) → Nat
  | [] => 0
  | x :: r => uptoBulkEntry x + uptoBulkEntries r
def uptoBulkEntry {H : Type} : Lit × DataW H → Nat
  | (.string bytes, d) => bytes.length + uptoBulk d + 1
  | (_, d) => uptoBulk d + 1
 end
def uptoSmall : (H : Type) → List (DataW H) → Bool := fun _ ds => decide (uptoBulkAll ds ≤ 1048576)
def OpenSpec.upto (s : _root_.Go.ChangeSpec) : _root_.Go.OpenSpec := { _root_.Go.OpenSpec.ofChange s with cond := some uptoSmall }

/-- 'donjonlaw08.TableMay', WHERE WHAT IT READS IS OF BULK AT MOST 1048576: true; the input reads as it did. -/
def tableMayUptoRow : OpenClaim := { program := "ytnablldaaajhkaa", sum := "51bdabfd74c07f02d5d9fb858792ddff05041a9e5050b65902aaba1ee786bd3a", func := "donjon/donjonlaw08.TableMay", spec := "tableMay", unfollowed := true, recurses := true, apart := false, narrowed := true }
def TableMayUptoSaid : Prop := tableMayUptoRow.holds Try.pinned (OpenSpec.upto tableMaySpec)

/-- 'donjonlaw04.LanePlays', WHERE WHAT IT READS IS OF BULK AT MOST 1048576: true; the input reads as it did. -/
def lanePlaysUptoRow : OpenClaim := { program := "ytnablldaaajhkaa", sum := "51bdabfd74c07f02d5d9fb858792ddff05041a9e5050b65902aaba1ee786bd3a", func := "donjon/donjonlaw04.LanePlays", spec := "lanePlays", unfollowed := true, recurses := true, apart := false, narrowed := true }
def LanePlaysUptoSaid : Prop := lanePlaysUptoRow.holds Try.pinned (OpenSpec.upto lanePlaysSpec)

/-- 'donjonlaw04.LaneOnce', WHERE WHAT IT READS IS OF BULK AT MOST 1048576: true; the input reads as it did. -/
def laneOnceUptoRow : OpenClaim := { program := "ytnablldaaajhkaa", sum := "51bdabfd74c07f02d5d9fb858792ddff05041a9e5050b65902aaba1ee786bd3a", func := "donjon/donjonlaw04.LaneOnce", spec := "laneOnce", unfollowed := true, recurses := true, apart := false, narrowed := true }
def LaneOnceUptoSaid : Prop := laneOnceUptoRow.holds Try.pinned (OpenSpec.upto laneOnceSpec)

/-- 'donjonlaw04.LaneParts', WHERE WHAT IT READS IS OF BULK AT MOST 1048576: true; the input reads as it did. -/
def lanePartsUptoRow : OpenClaim := { program := "ytnablldaaajhkaa", sum := "51bdabfd74c07f02d5d9fb858792ddff05041a9e5050b65902aaba1ee786bd3a", func := "donjon/donjonlaw04.LaneParts", spec := "laneParts", unfollowed := true, recurses := true, apart := false, narrowed := true }
def LanePartsUptoSaid : Prop := lanePartsUptoRow.holds Try.pinned (OpenSpec.upto lanePartsSpec)

/-- 'donjonlaw08.TableBack', WHERE WHAT IT READS IS OF BULK AT MOST 1048576: true; the input reads as it did. -/
def tableBackUptoRow : OpenClaim := { program := "ytnablldaaajhkaa", sum := "51bdabfd74c07f02d5d9fb858792ddff05041a9e5050b65902aaba1ee786bd3a", func := "donjon/donjonlaw08.TableBack", spec := "tableBack", unfollowed := true, recurses := true, apart := false, narrowed := true }
def TableBackUptoSaid : Prop := tableBackUptoRow.holds Try.pinned (OpenSpec.upto tableBackSpec)

/-- 'donjonlaw04.LaneCopies', WHERE WHAT IT READS IS OF BULK AT MOST 1048576: true; the input reads as it did. -/
def laneCopiesUptoRow : OpenClaim := { program := "ytnablldaaajhkaa", sum := "51bdabfd74c07f02d5d9fb858792ddff05041a9e5050b65902aaba1ee786bd3a", func := "donjon/donjonlaw04.LaneCopies", spec := "laneCopies", unfollowed := true, recurses := true, apart := false, narrowed := true }
def LaneCopiesUptoSaid : Prop := laneCopiesUptoRow.holds Try.pinned (OpenSpec.upto laneCopiesSpec)

/-- 'donjonlaw08.TableWalks', WHERE WHAT IT READS IS OF BULK AT MOST 1048576: true; the input reads as it did. -/
def tableWalksUptoRow : OpenClaim := { program := "ytnablldaaajhkaa", sum := "51bdabfd74c07f02d5d9fb858792ddff05041a9e5050b65902aaba1ee786bd3a", func := "donjon/donjonlaw08.TableWalks", spec := "tableWalks", unfollowed := true, recurses := true, apart := false, narrowed := true }
def TableWalksUptoSaid : Prop := tableWalksUptoRow.holds Try.pinned (OpenSpec.upto tableWalksSpec)

/-- 'donjonlaw08.TableWords', WHERE WHAT IT READS IS OF BULK AT MOST 1048576: true; the input reads as it did. -/
def tableWordsUptoRow : OpenClaim := { program := "ytnablldaaajhkaa", sum := "51bdabfd74c07f02d5d9fb858792ddff05041a9e5050b65902aaba1ee786bd3a", func := "donjon/donjonlaw08.TableWords", spec := "tableWords", unfollowed := true, recurses := true, apart := false, narrowed := true }
def TableWordsUptoSaid : Prop := tableWordsUptoRow.holds Try.pinned (OpenSpec.upto tableWordsSpec)

/-- 'donjonlaw08.TableNil', WHERE WHAT IT READS IS OF BULK AT MOST 1048576: true; the input reads as it did. -/
def tableNilUptoRow : OpenClaim := { program := "ytnablldaaajhkaa", sum := "51bdabfd74c07f02d5d9fb858792ddff05041a9e5050b65902aaba1ee786bd3a", func := "donjon/donjonlaw08.TableNil", spec := "tableNil", unfollowed := true, recurses := true, apart := false, narrowed := true }
def TableNilUptoSaid : Prop := tableNilUptoRow.holds Try.pinned (OpenSpec.upto tableNilSpec)

/-- 'donjonlaw08.TableApart', WHERE WHAT IT READS IS OF BULK AT MOST 1048576: true; the input reads as it did. -/
def tableApartUptoRow : OpenClaim := { program := "ytnablldaaajhkaa", sum := "51bdabfd74c07f02d5d9fb858792ddff05041a9e5050b65902aaba1ee786bd3a", func := "donjon/donjonlaw08.TableApart", spec := "tableApart", unfollowed := true, recurses := true, apart := false, narrowed := true }
def TableApartUptoSaid : Prop := tableApartUptoRow.holds Try.pinned (OpenSpec.upto tableApartSpec)

end Rows
end Go.Proofs.Ytnablldaaajhkaa
