/-
  DERIVED. GIVEN WITH THE SEED: THE CARDS: each row of YtnbdaffbmpbfjaaDoorRows.lean that lists a variable, with what it lists TIED to the program's text (the seventh form; the later family's looks); each row that meets fmt, with fmt's text TOLD by the authors' own Lean function (tested against real Go, not proved from fmt's source: count such statements apart). THE CARD IS WHAT COUNTS. Prove the row's statement (the work); the ties are given (YtnbdaffbmpbfjaaDoorTie.lean); close each card by the builder's one call (the guide's Derived/Test/ToyasCard.lean, 'card_holds'). Laid BY PROGRAM, IN A SANDBOX (cutbox-door.mjs). By AI agents, Wed Nov 11 2026. No macro, syntax, notation, axiom, sorry.
-/
import Derived.Test.YtnbdaffbmpbfjaaDoorRows
import GoSem.ClaimSeven
namespace Go.Proofs.YtnbdaffbmpbfjaaDoor
namespace Rows

/-- THE TIED CARD OF 'donjonlaw01.PlaceChecks'. -/
def placeChecksCard : Claim7 := { stood := { row := placeChecksRow, standIns := [], harness := (true, "1183dac38b58c09824ea9552dc5ba8871cdf17d588c9cf240d05fde937e8d239"), looks := false }, kinds := [], alts := [], laidByText := true, laidKinds := [.data], laidTests := true, laidLooks := .later }
def PlaceChecksCardSaid : Prop := Claim7.holds Tryd.pinned (.plain (OpenSpec.ofChange placeChecksSpec)) placeChecksCard

/-- THE TIED CARD OF 'donjonlaw01.PlaceFinds'. -/
def placeFindsCard : Claim7 := { stood := { row := placeFindsRow, standIns := [], harness := (true, "1183dac38b58c09824ea9552dc5ba8871cdf17d588c9cf240d05fde937e8d239"), looks := false }, kinds := [], alts := [], laidByText := true, laidKinds := [.data], laidTests := true, laidLooks := .later }
def PlaceFindsCardSaid : Prop := Claim7.holds Tryd.pinned (.plain (OpenSpec.ofChange placeFindsSpec)) placeFindsCard

/-- THE TIED CARD OF 'donjonlaw01.PlaceLines'. -/
def placeLinesCard : Claim7 := { stood := { row := placeLinesRow, standIns := [], harness := (true, "1183dac38b58c09824ea9552dc5ba8871cdf17d588c9cf240d05fde937e8d239"), looks := false }, kinds := [], alts := [], laidByText := true, laidKinds := [.data], laidTests := true, laidLooks := .later }
def PlaceLinesCardSaid : Prop := Claim7.holds Tryd.pinned (.plain (OpenSpec.ofChange placeLinesSpec)) placeLinesCard

/-- THE TIED CARD OF 'donjonlaw01.PlaceBack'. -/
def placeBackCard : Claim7 := { stood := { row := placeBackRow, standIns := [], harness := (true, "1183dac38b58c09824ea9552dc5ba8871cdf17d588c9cf240d05fde937e8d239"), looks := false }, kinds := [], alts := [], laidByText := true, laidKinds := [.data], laidTests := true, laidLooks := .later }
def PlaceBackCardSaid : Prop := Claim7.holds Tryd.pinned (.plain (OpenSpec.ofChange placeBackSpec)) placeBackCard

/-- THE TIED CARD OF 'donjonlaw06.MoesiProbes'. -/
def moesiProbesCard : Claim7 := { stood := { row := moesiProbesRow, standIns := [], harness := (true, "1183dac38b58c09824ea9552dc5ba8871cdf17d588c9cf240d05fde937e8d239"), looks := false }, kinds := [], alts := [], laidByText := true, laidKinds := [.data], laidTests := true, laidLooks := .later }
def MoesiProbesCardSaid : Prop := Claim7.holds Tryd.pinned (.plain (OpenSpec.ofChange moesiProbesSpec)) moesiProbesCard

/-- THE TIED CARD OF 'donjonlaw06.MoesiGrants'. -/
def moesiGrantsCard : Claim7 := { stood := { row := moesiGrantsRow, standIns := [], harness := (true, "1183dac38b58c09824ea9552dc5ba8871cdf17d588c9cf240d05fde937e8d239"), looks := false }, kinds := [], alts := [], laidByText := true, laidKinds := [.data], laidTests := true, laidLooks := .later }
def MoesiGrantsCardSaid : Prop := Claim7.holds Tryd.pinned (.plain (OpenSpec.ofChange moesiGrantsSpec)) moesiGrantsCard

/-- THE TIED CARD OF 'donjonlaw06.MoesiFits'. -/
def moesiFitsCard : Claim7 := { stood := { row := moesiFitsRow, standIns := [], harness := (true, "1183dac38b58c09824ea9552dc5ba8871cdf17d588c9cf240d05fde937e8d239"), looks := false }, kinds := [], alts := [], laidByText := true, laidKinds := [.data], laidTests := true, laidLooks := .later }
def MoesiFitsCardSaid : Prop := Claim7.holds Tryd.pinned (.plain (OpenSpec.ofChange moesiFitsSpec)) moesiFitsCard

/-- THE TIED CARD OF 'donjonlaw06.MoesiKeeps'. -/
def moesiKeepsCard : Claim7 := { stood := { row := moesiKeepsRow, standIns := [], harness := (true, "1183dac38b58c09824ea9552dc5ba8871cdf17d588c9cf240d05fde937e8d239"), looks := false }, kinds := [], alts := [], laidByText := true, laidKinds := [.data], laidTests := true, laidLooks := .later }
def MoesiKeepsCardSaid : Prop := Claim7.holds Tryd.pinned (.plain (OpenSpec.ofChange moesiKeepsSpec)) moesiKeepsCard

/-- THE TIED CARD OF 'donjonlaw06.MoesiTwice'. -/
def moesiTwiceCard : Claim7 := { stood := { row := moesiTwiceRow, standIns := [], harness := (true, "1183dac38b58c09824ea9552dc5ba8871cdf17d588c9cf240d05fde937e8d239"), looks := false }, kinds := [], alts := [], laidByText := true, laidKinds := [.data], laidTests := true, laidLooks := .later }
def MoesiTwiceCardSaid : Prop := Claim7.holds Tryd.pinned (.plain (OpenSpec.ofChange moesiTwiceSpec)) moesiTwiceCard

/-- THE TIED CARD OF 'donjonlaw06.MoesiStores'. -/
def moesiStoresCard : Claim7 := { stood := { row := moesiStoresRow, standIns := [], harness := (true, "1183dac38b58c09824ea9552dc5ba8871cdf17d588c9cf240d05fde937e8d239"), looks := false }, kinds := [], alts := [], laidByText := true, laidKinds := [.data], laidTests := true, laidLooks := .later }
def MoesiStoresCardSaid : Prop := Claim7.holds Tryd.pinned (.plain (OpenSpec.ofChange moesiStoresSpec)) moesiStoresCard

/-- THE SECOND FORM's CARD OF 'donjonlaw01.PlaceChecks'. -/
def placeChecksUptoCard : Claim7 := { stood := { row := placeChecksUptoRow, standIns := [], harness := (true, "1183dac38b58c09824ea9552dc5ba8871cdf17d588c9cf240d05fde937e8d239"), looks := false }, kinds := [], alts := [], laidByText := true, laidKinds := [.data], laidTests := true, laidLooks := .later }
def PlaceChecksUptoCardSaid : Prop := Claim7.holds Tryd.pinned (.plain (OpenSpec.upto placeChecksSpec)) placeChecksUptoCard

/-- THE SECOND FORM's CARD OF 'donjonlaw01.PlaceFinds'. -/
def placeFindsUptoCard : Claim7 := { stood := { row := placeFindsUptoRow, standIns := [], harness := (true, "1183dac38b58c09824ea9552dc5ba8871cdf17d588c9cf240d05fde937e8d239"), looks := false }, kinds := [], alts := [], laidByText := true, laidKinds := [.data], laidTests := true, laidLooks := .later }
def PlaceFindsUptoCardSaid : Prop := Claim7.holds Tryd.pinned (.plain (OpenSpec.upto placeFindsSpec)) placeFindsUptoCard

/-- THE SECOND FORM's CARD OF 'donjonlaw01.PlaceLines'. -/
def placeLinesUptoCard : Claim7 := { stood := { row := placeLinesUptoRow, standIns := [], harness := (true, "1183dac38b58c09824ea9552dc5ba8871cdf17d588c9cf240d05fde937e8d239"), looks := false }, kinds := [], alts := [], laidByText := true, laidKinds := [.data], laidTests := true, laidLooks := .later }
def PlaceLinesUptoCardSaid : Prop := Claim7.holds Tryd.pinned (.plain (OpenSpec.upto placeLinesSpec)) placeLinesUptoCard

/-- THE SECOND FORM's CARD OF 'donjonlaw01.PlaceBack'. -/
def placeBackUptoCard : Claim7 := { stood := { row := placeBackUptoRow, standIns := [], harness := (true, "1183dac38b58c09824ea9552dc5ba8871cdf17d588c9cf240d05fde937e8d239"), looks := false }, kinds := [], alts := [], laidByText := true, laidKinds := [.data], laidTests := true, laidLooks := .later }
def PlaceBackUptoCardSaid : Prop := Claim7.holds Tryd.pinned (.plain (OpenSpec.upto placeBackSpec)) placeBackUptoCard

/-- THE SECOND FORM's CARD OF 'donjonlaw06.MoesiProbes'. -/
def moesiProbesUptoCard : Claim7 := { stood := { row := moesiProbesUptoRow, standIns := [], harness := (true, "1183dac38b58c09824ea9552dc5ba8871cdf17d588c9cf240d05fde937e8d239"), looks := false }, kinds := [], alts := [], laidByText := true, laidKinds := [.data], laidTests := true, laidLooks := .later }
def MoesiProbesUptoCardSaid : Prop := Claim7.holds Tryd.pinned (.plain (OpenSpec.upto moesiProbesSpec)) moesiProbesUptoCard

/-- THE SECOND FORM's CARD OF 'donjonlaw06.MoesiGrants'. -/
def moesiGrantsUptoCard : Claim7 := { stood := { row := moesiGrantsUptoRow, standIns := [], harness := (true, "1183dac38b58c09824ea9552dc5ba8871cdf17d588c9cf240d05fde937e8d239"), looks := false }, kinds := [], alts := [], laidByText := true, laidKinds := [.data], laidTests := true, laidLooks := .later }
def MoesiGrantsUptoCardSaid : Prop := Claim7.holds Tryd.pinned (.plain (OpenSpec.upto moesiGrantsSpec)) moesiGrantsUptoCard

/-- THE SECOND FORM's CARD OF 'donjonlaw06.MoesiFits'. -/
def moesiFitsUptoCard : Claim7 := { stood := { row := moesiFitsUptoRow, standIns := [], harness := (true, "1183dac38b58c09824ea9552dc5ba8871cdf17d588c9cf240d05fde937e8d239"), looks := false }, kinds := [], alts := [], laidByText := true, laidKinds := [.data], laidTests := true, laidLooks := .later }
def MoesiFitsUptoCardSaid : Prop := Claim7.holds Tryd.pinned (.plain (OpenSpec.upto moesiFitsSpec)) moesiFitsUptoCard

/-- THE SECOND FORM's CARD OF 'donjonlaw06.MoesiKeeps'. -/
def moesiKeepsUptoCard : Claim7 := { stood := { row := moesiKeepsUptoRow, standIns := [], harness := (true, "1183dac38b58c09824ea9552dc5ba8871cdf17d588c9cf240d05fde937e8d239"), looks := false }, kinds := [], alts := [], laidByText := true, laidKinds := [.data], laidTests := true, laidLooks := .later }
def MoesiKeepsUptoCardSaid : Prop := Claim7.holds Tryd.pinned (.plain (OpenSpec.upto moesiKeepsSpec)) moesiKeepsUptoCard

/-- THE SECOND FORM's CARD OF 'donjonlaw06.MoesiTwice'. -/
def moesiTwiceUptoCard : Claim7 := { stood := { row := moesiTwiceUptoRow, standIns := [], harness := (true, "1183dac38b58c09824ea9552dc5ba8871cdf17d588c9cf240d05fde937e8d239"), looks := false }, kinds := [], alts := [], laidByText := true, laidKinds := [.data], laidTests := true, laidLooks := .later }
def MoesiTwiceUptoCardSaid : Prop := Claim7.holds Tryd.pinned (.plain (OpenSpec.upto moesiTwiceSpec)) moesiTwiceUptoCard

/-- THE SECOND FORM's CARD OF 'donjonlaw06.MoesiStores'. -/
def moesiStoresUptoCard : Claim7 := { stood := { row := moesiStoresUptoRow, standIns := [], harness := (true, "1183dac38b58c09824ea9552dc5ba8871cdf17d588c9cf240d05fde937e8d239"), looks := false }, kinds := [], alts := [], laidByText := true, laidKinds := [.data], laidTests := true, laidLooks := .later }
def MoesiStoresUptoCardSaid : Prop := Claim7.holds Tryd.pinned (.plain (OpenSpec.upto moesiStoresSpec)) moesiStoresUptoCard
end Rows
end Go.Proofs.YtnbdaffbmpbfjaaDoor
