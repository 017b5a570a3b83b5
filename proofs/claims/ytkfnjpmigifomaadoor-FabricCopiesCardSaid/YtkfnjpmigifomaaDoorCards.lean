/-
  DERIVED. GIVEN WITH THE SEED: THE CARDS: each row of YtkfnjpmigifomaaDoorRows.lean that lists a variable, with what it lists TIED to the program's text (the seventh form; the later family's looks); each row that meets fmt, with fmt's text TOLD by the authors' own Lean function (tested against real Go, not proved from fmt's source: count such statements apart). THE CARD IS WHAT COUNTS. Prove the row's statement (the work); the ties are given (YtkfnjpmigifomaaDoorTie.lean); close each card by the builder's one call (the guide's Derived/Test/ToyasCard.lean, 'card_holds'). Laid BY PROGRAM, IN A SANDBOX (cutbox-door.mjs). By AI agents, Wed Nov 11 2026. No macro, syntax, notation, axiom, sorry.
-/
import Derived.Test.YtkfnjpmigifomaaDoorRows
import GoSem.ClaimSeven
namespace Go.Proofs.YtkfnjpmigifomaaDoor
namespace Rows

/-- THE TIED CARD OF 'donjonlaw02.BankApart'. -/
def bankApartCard : Claim7 := { stood := { row := bankApartRow, standIns := [], harness := (true, "21d845537847d7e885bf394b63295af483752d606f755976a765ced8a268b608"), looks := false }, kinds := [], alts := [], laidByText := true, laidKinds := [.data], laidTests := true, laidLooks := .later }
def BankApartCardSaid : Prop := Claim7.holds Tryd.pinned (.plain (OpenSpec.ofChange bankApartSpec)) bankApartCard

/-- THE TIED CARD OF 'donjonlaw02.BankLast'. -/
def bankLastCard : Claim7 := { stood := { row := bankLastRow, standIns := [], harness := (true, "21d845537847d7e885bf394b63295af483752d606f755976a765ced8a268b608"), looks := false }, kinds := [], alts := [], laidByText := true, laidKinds := [.data], laidTests := true, laidLooks := .later }
def BankLastCardSaid : Prop := Claim7.holds Tryd.pinned (.plain (OpenSpec.ofChange bankLastSpec)) bankLastCard

/-- THE TIED CARD OF 'donjonlaw02.BankCopies'. -/
def bankCopiesCard : Claim7 := { stood := { row := bankCopiesRow, standIns := [], harness := (true, "21d845537847d7e885bf394b63295af483752d606f755976a765ced8a268b608"), looks := false }, kinds := [], alts := [], laidByText := true, laidKinds := [.data], laidTests := true, laidLooks := .later }
def BankCopiesCardSaid : Prop := Claim7.holds Tryd.pinned (.plain (OpenSpec.ofChange bankCopiesSpec)) bankCopiesCard

/-- THE TIED CARD OF 'donjonlaw05.FabricOnce'. -/
def fabricOnceCard : Claim7 := { stood := { row := fabricOnceRow, standIns := [], harness := (true, "21d845537847d7e885bf394b63295af483752d606f755976a765ced8a268b608"), looks := false }, kinds := [], alts := [], laidByText := true, laidKinds := [.data, .data], laidTests := true, laidLooks := .later }
def FabricOnceCardSaid : Prop := Claim7.holds Tryd.pinned (.plain (OpenSpec.ofChange fabricOnceSpec)) fabricOnceCard

/-- THE TIED CARD OF 'donjonlaw05.FabricCopies'. -/
def fabricCopiesCard : Claim7 := { stood := { row := fabricCopiesRow, standIns := [], harness := (true, "21d845537847d7e885bf394b63295af483752d606f755976a765ced8a268b608"), looks := false }, kinds := [], alts := [], laidByText := true, laidKinds := [.data, .data], laidTests := true, laidLooks := .later }
def FabricCopiesCardSaid : Prop := Claim7.holds Tryd.pinned (.plain (OpenSpec.ofChange fabricCopiesSpec)) fabricCopiesCard

/-- THE TIED CARD OF 'donjonlaw06.MoesiStates'. -/
def moesiStatesCard : Claim7 := { stood := { row := moesiStatesRow, standIns := [], harness := (true, "21d845537847d7e885bf394b63295af483752d606f755976a765ced8a268b608"), looks := false }, kinds := [], alts := [], laidByText := true, laidKinds := [.data], laidTests := true, laidLooks := .later }
def MoesiStatesCardSaid : Prop := Claim7.holds Tryd.pinned (.plain (OpenSpec.ofChange moesiStatesSpec)) moesiStatesCard

/-- THE SECOND FORM's CARD OF 'donjonlaw02.BankApart'. -/
def bankApartUptoCard : Claim7 := { stood := { row := bankApartUptoRow, standIns := [], harness := (true, "21d845537847d7e885bf394b63295af483752d606f755976a765ced8a268b608"), looks := false }, kinds := [], alts := [], laidByText := true, laidKinds := [.data], laidTests := true, laidLooks := .later }
def BankApartUptoCardSaid : Prop := Claim7.holds Tryd.pinned (.plain (OpenSpec.upto bankApartSpec)) bankApartUptoCard

/-- THE SECOND FORM's CARD OF 'donjonlaw02.BankLast'. -/
def bankLastUptoCard : Claim7 := { stood := { row := bankLastUptoRow, standIns := [], harness := (true, "21d845537847d7e885bf394b63295af483752d606f755976a765ced8a268b608"), looks := false }, kinds := [], alts := [], laidByText := true, laidKinds := [.data], laidTests := true, laidLooks := .later }
def BankLastUptoCardSaid : Prop := Claim7.holds Tryd.pinned (.plain (OpenSpec.upto bankLastSpec)) bankLastUptoCard

/-- THE SECOND FORM's CARD OF 'donjonlaw02.BankCopies'. -/
def bankCopiesUptoCard : Claim7 := { stood := { row := bankCopiesUptoRow, standIns := [], harness := (true, "21d845537847d7e885bf394b63295af483752d606f755976a765ced8a268b608"), looks := false }, kinds := [], alts := [], laidByText := true, laidKinds := [.data], laidTests := true, laidLooks := .later }
def BankCopiesUptoCardSaid : Prop := Claim7.holds Tryd.pinned (.plain (OpenSpec.upto bankCopiesSpec)) bankCopiesUptoCard

/-- THE SECOND FORM's CARD OF 'donjonlaw05.FabricOnce'. -/
def fabricOnceUptoCard : Claim7 := { stood := { row := fabricOnceUptoRow, standIns := [], harness := (true, "21d845537847d7e885bf394b63295af483752d606f755976a765ced8a268b608"), looks := false }, kinds := [], alts := [], laidByText := true, laidKinds := [.data, .data], laidTests := true, laidLooks := .later }
def FabricOnceUptoCardSaid : Prop := Claim7.holds Tryd.pinned (.plain (OpenSpec.upto fabricOnceSpec)) fabricOnceUptoCard

/-- THE SECOND FORM's CARD OF 'donjonlaw05.FabricCopies'. -/
def fabricCopiesUptoCard : Claim7 := { stood := { row := fabricCopiesUptoRow, standIns := [], harness := (true, "21d845537847d7e885bf394b63295af483752d606f755976a765ced8a268b608"), looks := false }, kinds := [], alts := [], laidByText := true, laidKinds := [.data, .data], laidTests := true, laidLooks := .later }
def FabricCopiesUptoCardSaid : Prop := Claim7.holds Tryd.pinned (.plain (OpenSpec.upto fabricCopiesSpec)) fabricCopiesUptoCard

/-- THE SECOND FORM's CARD OF 'donjonlaw06.MoesiStates'. -/
def moesiStatesUptoCard : Claim7 := { stood := { row := moesiStatesUptoRow, standIns := [], harness := (true, "21d845537847d7e885bf394b63295af483752d606f755976a765ced8a268b608"), looks := false }, kinds := [], alts := [], laidByText := true, laidKinds := [.data], laidTests := true, laidLooks := .later }
def MoesiStatesUptoCardSaid : Prop := Claim7.holds Tryd.pinned (.plain (OpenSpec.upto moesiStatesSpec)) moesiStatesUptoCard
end Rows
end Go.Proofs.YtkfnjpmigifomaaDoor
