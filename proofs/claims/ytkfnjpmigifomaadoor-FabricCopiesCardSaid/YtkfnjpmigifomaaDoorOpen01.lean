/- What this text holds: a configuration as an argument; the table of limits out of a row's list. No condition. -/
import Derived.Test.YtkfnjpmigifomaaDoorOpenI
import Derived.Test.YtkfnjpmigifomaaDoorPlace
namespace Go.Proofs.YtkfnjpmigifomaaDoor
open Go.ChangeShapes Go.WideShapes Go.ChangeAt Go.RowKit Go.Deep
set_option maxRecDepth 100000

section
variable {H : Type} {enc : TypeId × Value → H} {w : World} {base : Nat} {sp : Nat → Bool} {held : Bool}
theorem cfgLeafs : leafT Tryd.prog 5 23 = some [3, 3, 3, 3, 3, 3, 3] := by kernel_rfl
theorem open_cfg {r : Reach} {b0 : Nat} {v : Value} {x : DataW H} {p : List MemPlace}
    (hv : Value.okWide Tryd.prog w r b0 23 v) (h : DataW.Trod enc Tryd.prog w base sp held 23 v x p) : ∃ c : Cfg, v = .agg #[.int .i64 c.co, .int .i64 c.gr, .int .i64 c.se, .int .i64 c.wa, .int .i64 c.de, .int .i64 c.en, .int .i64 c.ba] := by
  obtain ⟨cs, rfl, hl⟩ := open_leafs cfgLeafs ⟨_, Tryd.underlying23, trivial⟩ hv h
  obtain ⟨l⟩ := cs
  obtain ⟨a0, h0, _⟩ := hl.int (i := 0) rfl Tryd.underlying3
  obtain ⟨a1, h1, _⟩ := hl.int (i := 1) rfl Tryd.underlying3
  obtain ⟨a2, h2, _⟩ := hl.int (i := 2) rfl Tryd.underlying3
  obtain ⟨a3, h3, _⟩ := hl.int (i := 3) rfl Tryd.underlying3
  obtain ⟨a4, h4, _⟩ := hl.int (i := 4) rfl Tryd.underlying3
  obtain ⟨a5, h5, _⟩ := hl.int (i := 5) rfl Tryd.underlying3
  obtain ⟨a6, h6, _⟩ := hl.int (i := 6) rfl Tryd.underlying3
  have hlen := hl.1
  match l, hlen with
  | [c0, c1, c2, c3, c4, c5, c6], _ =>
    simp at h0 h1 h2 h3 h4 h5 h6
    exact ⟨⟨a0, a1, a2, a3, a4, a5, a6⟩, by simp [h0, h1, h2, h3, h4, h5, h6]⟩
end

theorem gLim : Tryd.prog.globalNamed "donjon/place.limits" = some 1 := by kernel_rfl
theorem gLimType : (Tryd.prog.globals[(1 : Nat)]?).map (·.type) = some 95 := by kernel_rfl
theorem cellsLim : Tryd.prog.cellsOf 95 = 7 := by kernel_rfl
theorem cellsInt : Tryd.prog.cellsOf 3 = 1 := by kernel_rfl
theorem lims_of_tab {W : World} (h : Lib.TabIs Tryd.prog W "donjon/place.limits" .i64 [4, 16, 8, 4, 16, 8, 4]) : Lims W := by
  unfold Lib.TabIs World.var? at h
  rw [gLim] at h
  simp only [Option.bind_some] at h
  split at h
  · rename_i cs t fr hg
    cases h
    exact ⟨t, fr, hg⟩
  · cases h
theorem lims_of_one {W : World} (h : laidMetH Tryd.prog [("donjon/place.limits", Rows.laid_donjon_place_limits)] W) : Lims W := 
  lims_of_tab (Lib.tabIs_of_head (rest := []) gLim gLimType Tryd.underlying95 Tryd.underlying3 cellsInt cellsLim h)

end Go.Proofs.YtkfnjpmigifomaaDoor
