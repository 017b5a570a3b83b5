/- What this text holds: the table of states out of a row's list. No condition. -/
import Derived.Test.YtkfnjpmigifomaaDoorOpenI
import Derived.Test.YtkfnjpmigifomaaDoorTab
import Derived.Test.YtkfnjpmigifomaaDoorMoesi
namespace Go.Proofs.YtkfnjpmigifomaaDoor
open Go.ChangeShapes Go.WideShapes Go.ChangeAt Go.RowKit

theorem gRows : Tryd.prog.globalNamed "donjon/moesi.rows" = some 0 := by kernel_rfl
theorem gRowsType : (Tryd.prog.globals[(0 : Nat)]?).map (·.type) = some 150 := by kernel_rfl
theorem scRows : scalarT Tryd.prog 5 150 = true := by kernel_rfl
theorem flatRows : (flatV 5 (Rows.laid_donjon_moesi_rows : DataW Unit)).toArray = #[.string ⟨#[73]⟩, .bool false, .bool false, .bool false, .bool false, .int .i64 0, .int .i64 0, .int .i64 0, .string ⟨#[83]⟩, .bool true, .bool false, .bool false, .bool false, .int .i64 0, .int .i64 1, .int .i64 0, .string ⟨#[69]⟩, .bool true, .bool true, .bool false, .bool true, .int .i64 4, .int .i64 1, .int .i64 0, .string ⟨#[79]⟩, .bool true, .bool false, .bool true, .bool true, .int .i64 0, .int .i64 3, .int .i64 0, .string ⟨#[77]⟩, .bool true, .bool true, .bool true, .bool true, .int .i64 4, .int .i64 3, .int .i64 0] := by kernel_rfl
theorem rws_of_one {W : World} (h : laidMetH Tryd.prog [("donjon/moesi.rows", Rows.laid_donjon_moesi_rows)] W) : Rws W := by
  obtain ⟨t, fr, hh⟩ := laid_cells (rest := []) gRows gRowsType scRows h
  exact ⟨t, fr, by rw [hh, flatRows]⟩

end Go.Proofs.YtkfnjpmigifomaaDoor
