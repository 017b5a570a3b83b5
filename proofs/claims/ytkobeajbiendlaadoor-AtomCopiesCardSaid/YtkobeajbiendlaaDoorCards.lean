/-
  DERIVED. GIVEN WITH THE SEED: THE CARDS: each row of YtkobeajbiendlaaDoorRows.lean that lists a variable, with what it lists TIED to the program's text (the seventh form; the later family's looks); each row that meets fmt, with fmt's text TOLD by the authors' own Lean function (tested against real Go, not proved from fmt's source: count such statements apart). THE CARD IS WHAT COUNTS. Prove the row's statement (the work); the ties are given (YtkobeajbiendlaaDoorTie.lean); close each card by the builder's one call (the guide's Derived/Test/ToyasCard.lean, 'card_holds'). Laid BY PROGRAM, IN A SANDBOX (cutbox-door.mjs). By AI agents, Wed Nov 11 2026. No macro, syntax, notation, axiom, sorry.
-/
import Derived.Test.YtkobeajbiendlaaDoorRows
import GoSem.ClaimSeven
namespace Go.Proofs.YtkobeajbiendlaaDoor
namespace Rows

/-- THE TIED CARD OF 'donjonlaw15.CoreNews'. -/
def coreNewsCard : Claim7 := { stood := { row := coreNewsRow, standIns := [], harness := (true, "d5d1786c9628d99ba6dcad4f17498414cdb6b0728e4c546004aba24f8d7b76d8"), looks := false }, kinds := [], alts := [], laidByText := true, laidKinds := [.data], laidTests := true, laidLooks := .later }
def CoreNewsCardSaid : Prop := Claim7.holds Tryd.pinned (.plain (OpenSpec.ofChange coreNewsSpec)) coreNewsCard

/-- THE TIED CARD OF 'donjonlaw15.CoreRuns'. -/
def coreRunsCard : Claim7 := { stood := { row := coreRunsRow, standIns := [], harness := (true, "d5d1786c9628d99ba6dcad4f17498414cdb6b0728e4c546004aba24f8d7b76d8"), looks := false }, kinds := [], alts := [], laidByText := true, laidKinds := [.data], laidTests := true, laidLooks := .later }
def CoreRunsCardSaid : Prop := Claim7.holds Tryd.pinned (.plain (OpenSpec.ofChange coreRunsSpec)) coreRunsCard

/-- THE TIED CARD OF 'donjonlaw15.CoreNil'. -/
def coreNilCard : Claim7 := { stood := { row := coreNilRow, standIns := [], harness := (true, "d5d1786c9628d99ba6dcad4f17498414cdb6b0728e4c546004aba24f8d7b76d8"), looks := false }, kinds := [], alts := [], laidByText := true, laidKinds := [.data], laidTests := true, laidLooks := .later }
def CoreNilCardSaid : Prop := Claim7.holds Tryd.pinned (.plain (OpenSpec.ofChange coreNilSpec)) coreNilCard

/-- THE TIED CARD OF 'donjonlaw11.AtomJudges'. -/
def atomJudgesCard : Claim7 := { stood := { row := atomJudgesRow, standIns := [], harness := (true, "d5d1786c9628d99ba6dcad4f17498414cdb6b0728e4c546004aba24f8d7b76d8"), looks := false }, kinds := [], alts := [], laidByText := true, laidKinds := [.data, .data], laidTests := true, laidLooks := .later }
def AtomJudgesCardSaid : Prop := Claim7.holds Tryd.pinned (.plain (OpenSpec.ofChange atomJudgesSpec)) atomJudgesCard

/-- THE TIED CARD OF 'donjonlaw11.AtomApart'. -/
def atomApartCard : Claim7 := { stood := { row := atomApartRow, standIns := [], harness := (true, "d5d1786c9628d99ba6dcad4f17498414cdb6b0728e4c546004aba24f8d7b76d8"), looks := false }, kinds := [], alts := [], laidByText := true, laidKinds := [.data, .data], laidTests := true, laidLooks := .later }
def AtomApartCardSaid : Prop := Claim7.holds Tryd.pinned (.plain (OpenSpec.ofChange atomApartSpec)) atomApartCard

/-- THE TIED CARD OF 'donjonlaw11.AtomSteps'. -/
def atomStepsCard : Claim7 := { stood := { row := atomStepsRow, standIns := [], harness := (true, "d5d1786c9628d99ba6dcad4f17498414cdb6b0728e4c546004aba24f8d7b76d8"), looks := false }, kinds := [], alts := [], laidByText := true, laidKinds := [.data, .data], laidTests := true, laidLooks := .later }
def AtomStepsCardSaid : Prop := Claim7.holds Tryd.pinned (.plain (OpenSpec.ofChange atomStepsSpec)) atomStepsCard

/-- THE TIED CARD OF 'donjonlaw11.AtomBusy'. -/
def atomBusyCard : Claim7 := { stood := { row := atomBusyRow, standIns := [], harness := (true, "d5d1786c9628d99ba6dcad4f17498414cdb6b0728e4c546004aba24f8d7b76d8"), looks := false }, kinds := [], alts := [], laidByText := true, laidKinds := [.data, .data], laidTests := true, laidLooks := .later }
def AtomBusyCardSaid : Prop := Claim7.holds Tryd.pinned (.plain (OpenSpec.ofChange atomBusySpec)) atomBusyCard

/-- THE TIED CARD OF 'donjonlaw11.AtomKeeps'. -/
def atomKeepsCard : Claim7 := { stood := { row := atomKeepsRow, standIns := [], harness := (true, "d5d1786c9628d99ba6dcad4f17498414cdb6b0728e4c546004aba24f8d7b76d8"), looks := false }, kinds := [], alts := [], laidByText := true, laidKinds := [.data, .data], laidTests := true, laidLooks := .later }
def AtomKeepsCardSaid : Prop := Claim7.holds Tryd.pinned (.plain (OpenSpec.ofChange atomKeepsSpec)) atomKeepsCard

/-- THE TIED CARD OF 'donjonlaw11.AtomCopies'. -/
def atomCopiesCard : Claim7 := { stood := { row := atomCopiesRow, standIns := [], harness := (true, "d5d1786c9628d99ba6dcad4f17498414cdb6b0728e4c546004aba24f8d7b76d8"), looks := false }, kinds := [], alts := [], laidByText := true, laidKinds := [.data, .data], laidTests := true, laidLooks := .later }
def AtomCopiesCardSaid : Prop := Claim7.holds Tryd.pinned (.plain (OpenSpec.ofChange atomCopiesSpec)) atomCopiesCard

/-- THE TIED CARD OF 'donjonlaw11.AtomNil'. -/
def atomNilCard : Claim7 := { stood := { row := atomNilRow, standIns := [], harness := (true, "d5d1786c9628d99ba6dcad4f17498414cdb6b0728e4c546004aba24f8d7b76d8"), looks := false }, kinds := [], alts := [], laidByText := true, laidKinds := [.data, .data], laidTests := true, laidLooks := .later }
def AtomNilCardSaid : Prop := Claim7.holds Tryd.pinned (.plain (OpenSpec.ofChange atomNilSpec)) atomNilCard

/-- THE TIED CARD OF 'donjonlaw15.CorePlaces'. -/
def corePlacesCard : Claim7 := { stood := { row := corePlacesRow, standIns := [], harness := (true, "d5d1786c9628d99ba6dcad4f17498414cdb6b0728e4c546004aba24f8d7b76d8"), looks := false }, kinds := [], alts := [], laidByText := true, laidKinds := [.data, .data], laidTests := true, laidLooks := .later }
def CorePlacesCardSaid : Prop := Claim7.holds Tryd.pinned (.plain (OpenSpec.ofChange corePlacesSpec)) corePlacesCard

/-- THE SECOND FORM's CARD OF 'donjonlaw15.CoreNews'. -/
def coreNewsUptoCard : Claim7 := { stood := { row := coreNewsUptoRow, standIns := [], harness := (true, "d5d1786c9628d99ba6dcad4f17498414cdb6b0728e4c546004aba24f8d7b76d8"), looks := false }, kinds := [], alts := [], laidByText := true, laidKinds := [.data], laidTests := true, laidLooks := .later }
def CoreNewsUptoCardSaid : Prop := Claim7.holds Tryd.pinned (.plain (OpenSpec.upto coreNewsSpec)) coreNewsUptoCard

/-- THE SECOND FORM's CARD OF 'donjonlaw15.CoreRuns'. -/
def coreRunsUptoCard : Claim7 := { stood := { row := coreRunsUptoRow, standIns := [], harness := (true, "d5d1786c9628d99ba6dcad4f17498414cdb6b0728e4c546004aba24f8d7b76d8"), looks := false }, kinds := [], alts := [], laidByText := true, laidKinds := [.data], laidTests := true, laidLooks := .later }
def CoreRunsUptoCardSaid : Prop := Claim7.holds Tryd.pinned (.plain (OpenSpec.upto coreRunsSpec)) coreRunsUptoCard

/-- THE SECOND FORM's CARD OF 'donjonlaw15.CoreNil'. -/
def coreNilUptoCard : Claim7 := { stood := { row := coreNilUptoRow, standIns := [], harness := (true, "d5d1786c9628d99ba6dcad4f17498414cdb6b0728e4c546004aba24f8d7b76d8"), looks := false }, kinds := [], alts := [], laidByText := true, laidKinds := [.data], laidTests := true, laidLooks := .later }
def CoreNilUptoCardSaid : Prop := Claim7.holds Tryd.pinned (.plain (OpenSpec.upto coreNilSpec)) coreNilUptoCard

/-- THE SECOND FORM's CARD OF 'donjonlaw11.AtomJudges'. -/
def atomJudgesUptoCard : Claim7 := { stood := { row := atomJudgesUptoRow, standIns := [], harness := (true, "d5d1786c9628d99ba6dcad4f17498414cdb6b0728e4c546004aba24f8d7b76d8"), looks := false }, kinds := [], alts := [], laidByText := true, laidKinds := [.data, .data], laidTests := true, laidLooks := .later }
def AtomJudgesUptoCardSaid : Prop := Claim7.holds Tryd.pinned (.plain (OpenSpec.upto atomJudgesSpec)) atomJudgesUptoCard

/-- THE SECOND FORM's CARD OF 'donjonlaw11.AtomApart'. -/
def atomApartUptoCard : Claim7 := { stood := { row := atomApartUptoRow, standIns := [], harness := (true, "d5d1786c9628d99ba6dcad4f17498414cdb6b0728e4c546004aba24f8d7b76d8"), looks := false }, kinds := [], alts := [], laidByText := true, laidKinds := [.data, .data], laidTests := true, laidLooks := .later }
def AtomApartUptoCardSaid : Prop := Claim7.holds Tryd.pinned (.plain (OpenSpec.upto atomApartSpec)) atomApartUptoCard

/-- THE SECOND FORM's CARD OF 'donjonlaw11.AtomSteps'. -/
def atomStepsUptoCard : Claim7 := { stood := { row := atomStepsUptoRow, standIns := [], harness := (true, "d5d1786c9628d99ba6dcad4f17498414cdb6b0728e4c546004aba24f8d7b76d8"), looks := false }, kinds := [], alts := [], laidByText := true, laidKinds := [.data, .data], laidTests := true, laidLooks := .later }
def AtomStepsUptoCardSaid : Prop := Claim7.holds Tryd.pinned (.plain (OpenSpec.upto atomStepsSpec)) atomStepsUptoCard

/-- THE SECOND FORM's CARD OF 'donjonlaw11.AtomBusy'. -/
def atomBusyUptoCard : Claim7 := { stood := { row := atomBusyUptoRow, standIns := [], harness := (true, "d5d1786c9628d99ba6dcad4f17498414cdb6b0728e4c546004aba24f8d7b76d8"), looks := false }, kinds := [], alts := [], laidByText := true, laidKinds := [.data, .data], laidTests := true, laidLooks := .later }
def AtomBusyUptoCardSaid : Prop := Claim7.holds Tryd.pinned (.plain (OpenSpec.upto atomBusySpec)) atomBusyUptoCard

/-- THE SECOND FORM's CARD OF 'donjonlaw11.AtomKeeps'. -/
def atomKeepsUptoCard : Claim7 := { stood := { row := atomKeepsUptoRow, standIns := [], harness := (true, "d5d1786c9628d99ba6dcad4f17498414cdb6b0728e4c546004aba24f8d7b76d8"), looks := false }, kinds := [], alts := [], laidByText := true, laidKinds := [.data, .data], laidTests := true, laidLooks := .later }
def AtomKeepsUptoCardSaid : Prop := Claim7.holds Tryd.pinned (.plain (OpenSpec.upto atomKeepsSpec)) atomKeepsUptoCard

/-- THE SECOND FORM's CARD OF 'donjonlaw11.AtomCopies'. -/
def atomCopiesUptoCard : Claim7 := { stood := { row := atomCopiesUptoRow, standIns := [], harness := (true, "d5d1786c9628d99ba6dcad4f17498414cdb6b0728e4c546004aba24f8d7b76d8"), looks := false }, kinds := [], alts := [], laidByText := true, laidKinds := [.data, .data], laidTests := true, laidLooks := .later }
def AtomCopiesUptoCardSaid : Prop := Claim7.holds Tryd.pinned (.plain (OpenSpec.upto atomCopiesSpec)) atomCopiesUptoCard

/-- THE SECOND FORM's CARD OF 'donjonlaw11.AtomNil'. -/
def atomNilUptoCard : Claim7 := { stood := { row := atomNilUptoRow, standIns := [], harness := (true, "d5d1786c9628d99ba6dcad4f17498414cdb6b0728e4c546004aba24f8d7b76d8"), looks := false }, kinds := [], alts := [], laidByText := true, laidKinds := [.data, .data], laidTests := true, laidLooks := .later }
def AtomNilUptoCardSaid : Prop := Claim7.holds Tryd.pinned (.plain (OpenSpec.upto atomNilSpec)) atomNilUptoCard

/-- THE SECOND FORM's CARD OF 'donjonlaw15.CorePlaces'. -/
def corePlacesUptoCard : Claim7 := { stood := { row := corePlacesUptoRow, standIns := [], harness := (true, "d5d1786c9628d99ba6dcad4f17498414cdb6b0728e4c546004aba24f8d7b76d8"), looks := false }, kinds := [], alts := [], laidByText := true, laidKinds := [.data, .data], laidTests := true, laidLooks := .later }
def CorePlacesUptoCardSaid : Prop := Claim7.holds Tryd.pinned (.plain (OpenSpec.upto corePlacesSpec)) corePlacesUptoCard
end Rows
end Go.Proofs.YtkobeajbiendlaaDoor
