/-
  DERIVED. GIVEN WITH THE SEED: THE PROGRAM's TIES (one call each: nine closed facts by the kernel) AND EACH ROW's TIE, after the 31st guide's Derived/Test/Toyas{Tie, Card}.lean. No idea stands in it: it is a product of the set-up. Laid BY PROGRAM, IN A SANDBOX (cutbox-door.mjs). By AI agents, Wed Nov 11 2026. No macro, syntax, notation, axiom, sorry.
-/
import Derived.Test.YtkfnjpmigifomaaDoorRows
import Derived.LaidByTextLater
import Derived.SevenTiedAt
import Derived.LaidSub
import Derived.LaidOnce
namespace Go.Proofs.YtkfnjpmigifomaaDoor
open Go
set_option maxRecDepth 100000
theorem seatTie1 : Tryd.prog.laidByTextLater [("donjon/moesi.rows", Rows.laid_donjon_moesi_rows), ("donjon/place.limits", Rows.laid_donjon_place_limits), ("donjon/note.kinds", Rows.laid_donjon_note_kinds)] [.data, .data, .data] true :=
  Program.laidByTextLater_by_one 55 8 127 (by kernel_rfl) (by kernel_rfl) (by kernel_rfl) (by kernel_rfl) (by kernel_rfl) (by kernel_rfl) (fun _ _ => by kernel_rfl)
theorem noOwnUnsafe : Tryd.pinned.checked.prog.headLifts.contains "ownunsafe" = false := by kernel_rfl
theorem tie : Tryd.prog.laidByTextLater [("donjon/place.limits", Rows.laid_donjon_place_limits)] [.data] true :=
  Program.laidByTextLater.sub seatTie1 ["donjon/place.limits"] (by kernel_rfl) (by kernel_rfl)
theorem bankApart_row_tie : Rows.bankApartRow.laidByTextAt .later Tryd.pinned [.data] true :=
  OpenClaim.laidByTextAt_later rfl rfl tie noOwnUnsafe
theorem bankLast_row_tie : Rows.bankLastRow.laidByTextAt .later Tryd.pinned [.data] true :=
  OpenClaim.laidByTextAt_later rfl rfl tie noOwnUnsafe
theorem bankCopies_row_tie : Rows.bankCopiesRow.laidByTextAt .later Tryd.pinned [.data] true :=
  OpenClaim.laidByTextAt_later rfl rfl tie noOwnUnsafe
theorem tie2 : Tryd.prog.laidByTextLater [("donjon/place.limits", Rows.laid_donjon_place_limits), ("donjon/note.kinds", Rows.laid_donjon_note_kinds)] [.data, .data] true :=
  Program.laidByTextLater.sub seatTie1 ["donjon/place.limits", "donjon/note.kinds"] (by kernel_rfl) (by kernel_rfl)
theorem fabricOnce_row_tie : Rows.fabricOnceRow.laidByTextAt .later Tryd.pinned [.data, .data] true :=
  OpenClaim.laidByTextAt_later rfl rfl tie2 noOwnUnsafe
theorem fabricCopies_row_tie : Rows.fabricCopiesRow.laidByTextAt .later Tryd.pinned [.data, .data] true :=
  OpenClaim.laidByTextAt_later rfl rfl tie2 noOwnUnsafe
theorem tie3 : Tryd.prog.laidByTextLater [("donjon/moesi.rows", Rows.laid_donjon_moesi_rows)] [.data] true :=
  Program.laidByTextLater.sub seatTie1 ["donjon/moesi.rows"] (by kernel_rfl) (by kernel_rfl)
theorem moesiStates_row_tie : Rows.moesiStatesRow.laidByTextAt .later Tryd.pinned [.data] true :=
  OpenClaim.laidByTextAt_later rfl rfl tie3 noOwnUnsafe
theorem bankApartUpto_row_tie : Rows.bankApartUptoRow.laidByTextAt .later Tryd.pinned [.data] true :=
  OpenClaim.laidByTextAt_later rfl rfl tie noOwnUnsafe
theorem bankLastUpto_row_tie : Rows.bankLastUptoRow.laidByTextAt .later Tryd.pinned [.data] true :=
  OpenClaim.laidByTextAt_later rfl rfl tie noOwnUnsafe
theorem bankCopiesUpto_row_tie : Rows.bankCopiesUptoRow.laidByTextAt .later Tryd.pinned [.data] true :=
  OpenClaim.laidByTextAt_later rfl rfl tie noOwnUnsafe
theorem fabricOnceUpto_row_tie : Rows.fabricOnceUptoRow.laidByTextAt .later Tryd.pinned [.data, .data] true :=
  OpenClaim.laidByTextAt_later rfl rfl tie2 noOwnUnsafe
theorem fabricCopiesUpto_row_tie : Rows.fabricCopiesUptoRow.laidByTextAt .later Tryd.pinned [.data, .data] true :=
  OpenClaim.laidByTextAt_later rfl rfl tie2 noOwnUnsafe
theorem moesiStatesUpto_row_tie : Rows.moesiStatesUptoRow.laidByTextAt .later Tryd.pinned [.data] true :=
  OpenClaim.laidByTextAt_later rfl rfl tie3 noOwnUnsafe
end Go.Proofs.YtkfnjpmigifomaaDoor
