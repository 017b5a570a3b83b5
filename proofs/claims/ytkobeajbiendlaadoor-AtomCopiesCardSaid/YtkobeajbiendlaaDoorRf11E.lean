/- What this text holds: cores, instructions and events that are compared; whether two events are one; whether an instruction is the document's. No condition. -/
import Derived.Test.YtkobeajbiendlaaDoorRef10B
import Derived.Laws.StructEq
import Derived.ChangeKeysEq
namespace Go.Proofs.YtkobeajbiendlaaDoor
open Go.RowKit

theorem info_intS : (Tryd.prog.info? 3).map (fun i => (i.zero, i.size, i.bytes)) = some (some (.int .i64 0), 1, 8) := by kernel_rfl
theorem eqRegsS (w : World) (a b c d : Int) : (Op.equalIn 9999 30 (.agg #[.int .i64 a, .int .i64 b, .int .i64 c, .int .i64 d]) (.agg #[.int .i64 a, .int .i64 b, .int .i64 c, .int .i64 d])).run Tryd.prog w = .ok true w := by
  obtain ⟨i0, hi, hz0, hz1, hz2⟩ := info_parts info_intS
  have hc : Tryd.prog.cellsOf 3 = 1 := by kernel_rfl
  have hr : List.range 4 = [0, 1, 2, 3] := rfl
  rw [run_equalIn_array (P := Tryd.prog) w 9998 _ _ Tryd.underlying30 hi, hc, hr]
  simp only [Op.eqItems]
  go_simp
theorem neqCoreS (w : World) (a b c d x y : Int) (z : Bool) : (binOp .neq 32 (.agg #[.int .i64 a, .int .i64 b, .int .i64 c, .int .i64 d, .int .i64 x, .int .i64 y, .bool z]) (.agg #[.int .i64 a, .int .i64 b, .int .i64 c, .int .i64 d, .int .i64 x, .int .i64 y, .bool z])).run Tryd.prog w = .ok (.bool false) w := by
  have h := fun w => eqRegsS w a b c d
  go_simp
theorem neqInsS (w : World) (a b c d : Int) : (binOp .neq 36 (.agg #[.int .i64 a, .int .i64 b, .int .i64 c, .int .i64 d]) (.agg #[.int .i64 a, .int .i64 b, .int .i64 c, .int .i64 d])).run Tryd.prog w = .ok (.bool false) w := by
  go_simp
theorem eqThreeS (w : World) (a b c : Int) : (Op.equalIn 9999 128 (.agg #[.int .i64 a, .int .i64 b, .int .i64 c]) (.agg #[.int .i64 a, .int .i64 b, .int .i64 c])).run Tryd.prog w = .ok true w := by
  obtain ⟨i0, hi, hz0, hz1, hz2⟩ := info_parts info_intS
  have hc : Tryd.prog.cellsOf 3 = 1 := by kernel_rfl
  have hr : List.range 3 = [0, 1, 2] := rfl
  rw [run_equalIn_array (P := Tryd.prog) w 9998 _ _ Tryd.underlying128 hi, hc, hr]
  simp only [Op.eqItems]
  go_simp
theorem neqIns10S (w : World) (a b c d : Int) : (binOp .neq 130 (.agg #[.int .i64 a, .int .i64 b, .int .i64 c, .int .i64 d]) (.agg #[.int .i64 a, .int .i64 b, .int .i64 c, .int .i64 d])).run Tryd.prog w = .ok (.bool false) w := by
  have h := fun w => eqThreeS w b c d
  go_simp
theorem eqEvS (w : World) (a b c d x y z : Int) : (binOp .eql 42 (.agg #[.int .i64 a, .int .i64 b, .int .i64 c, .int .i64 d, .int .i64 x, .int .i64 y, .int .i64 z]) (.agg #[.int .i64 a, .int .i64 b, .int .i64 c, .int .i64 d, .int .i64 x, .int .i64 y, .int .i64 z])).run Tryd.prog w = .ok (.bool true) w := by
  go_simp

theorem devent_same (a b c d x y z : Int) (w : World) : Calls Tryd.prog 62 #[.agg #[.int .i64 a, .int .i64 b, .int .i64 c, .int .i64 d, .int .i64 x, .int .i64 y, .int .i64 z], .agg #[.int .i64 a, .int .i64 b, .int .i64 c, .int .i64 d, .int .i64 x, .int .i64 y, .int .i64 z]] w fun e w' => e = .returned (.bool true) ∧ Below w.heap.size w w' := by
  go_enter Tryd.func62, Tryd.ntmps62
  go_wp2_with fail
  go_ret
  exact ⟨rfl, (by repeat (with_reducible first | exact Below.refl _ _ | assumption | (refine ext_next (by assumption) ?_) | apply ext_alloc | apply ext_past | apply ext_drew | apply ext_drewN))⟩

set_option maxRecDepth 100000 in
/-- An instruction is the document's where their cells are the same. -/
theorem same10_one (x : Ins) (A B : Option Addr) (c c' : Nat) (w : World) (h1 : SlN w A [x]) (h2 : SlN w B [x]) :
    Calls Tryd.prog 61 #[.slice A 1 c, .slice B 1 c'] w fun e w' => e = .returned (.bool true) ∧ Below w.heap.size w w' := by
  have HP := Lib.hid (plain10 A [x] c w h1 (by simp))
  have H2 := Lib.hid h2
  clear h1 h2
  go_enter Tryd.func61, Tryd.ntmps61
  go_wp2_with fail
  refine HP.out.mono ?_
  rintro e w1 ⟨A1, c1, rfl, hA, _, _, hb⟩
  obtain ⟨b1, off1, rfl, hb1, hc1⟩ := hA (by simp)
  obtain ⟨b2, off2, rfl, hb2, hc2⟩ := H2.out (by simp)
  obtain ⟨x0, x1, x2, x3⟩ := hc1 0 (by simp)
  obtain ⟨y0, y1, y2, y3⟩ := hc2 0 (by simp)
  have z0 := (hb.cell (p := ⟨b2, off2 + 0 * 4, none⟩) hb2).trans y0
  have z1 := (hb.cell (p := ⟨b2, off2 + 0 * 4 + 1, none⟩) hb2).trans y1
  have z2 := (hb.cell (p := ⟨b2, off2 + 0 * 4 + 2, none⟩) hb2).trans y2
  have z3 := (hb.cell (p := ⟨b2, off2 + 0 * 4 + 3, none⟩) hb2).trans y3
  have ex : atI [x] 0 = x := rfl
  rw [ex] at x0 x1 x2 x3 z0 z1 z2 z3
  simp only [Nat.zero_mul, Nat.add_zero] at x0 x1 x2 x3 z0 z1 z2 z3
  have hb2' := Nat.lt_of_lt_of_le hb2 hb.size
  have HB := Lib.hid hb
  have hq := fun w => neqIns10S w x.op x.a x.b x.c
  clear hA hc1 hc2 hb y0 y1 y2 y3 ex
  go_wp2_with fail
  refine wp_loop_rounds 2 ?_
  rw [rounds_succ]
  go_wp2_with fail
  refine region_past (by kernel_rfl) (by kernel_rfl) ?_; (repeat (go_big_quiet_step (fail))); refine wpQuiet_nil ?_; rintro _ ⟨pw, rfl⟩
  go_wp2_with fail
  rw [rounds_succ]
  go_wp2_with fail
  go_ret
  exact ⟨rfl, ext_past pw HB.out⟩

end Go.Proofs.YtkobeajbiendlaaDoor
