/- What this text holds: the laws AtomNil and AtomJudges, walked. Conditions: the tables of limits and of ops hold what their initialisers lay. -/
import Derived.Test.YtkobeajbiendlaaDoorAtmU
import Derived.Test.YtkobeajbiendlaaDoorAto
import Derived.ChangeKeysEq
namespace Go.Proofs.YtkobeajbiendlaaDoor
open Go.RowKit

theorem eqZero (w : World) : (binOp .eql 32 (.agg #[.int .i64 0, .int .i64 0, .int .i64 0, .int .i64 0, .int .i64 0, .int .i64 0, .bool false]) (.agg #[.int .i64 0, .int .i64 0, .int .i64 0, .int .i64 0, .int .i64 0, .int .i64 0, .bool false])).run Tryd.prog w = .ok (.bool true) w := by
  obtain ⟨i0, hi, hz0, hz1, hz2⟩ := info_parts info_int11
  have hc : Tryd.prog.cellsOf 3 = 1 := by kernel_rfl
  have hr : List.range 4 = [0, 1, 2, 3] := rfl
  have h : ∀ w, (Op.equalIn 9999 30 (.agg #[.int .i64 0, .int .i64 0, .int .i64 0, .int .i64 0]) (.agg #[.int .i64 0, .int .i64 0, .int .i64 0, .int .i64 0])).run Tryd.prog w = .ok true w := fun w => by
    rw [run_equalIn_array (P := Tryd.prog) w 9998 _ _ Tryd.underlying30 hi, hc, hr]
    simp only [Op.eqItems]
    go_simp
  go_simp
set_option maxRecDepth 100000 in
set_option maxHeartbeats 4000000 in
theorem atomnil (x n : Int) (b : Bool) (w : World) (hL : Lims w) (hO : Ops w) :
    Calls Tryd.prog 12 #[.agg #[.int .i64 x, .bool b], .int .i64 n] w fun e w' => e = .returned (.bool true) ∧ Below w.heap.size w w' := by
  have HL := Lib.hid hL
  have HO := Lib.hid hO
  have hq := eqZero
  clear hL hO
  go_enter Tryd.func12, Tryd.ntmps12
  go_wp2_with fail
  refine (astep_nil x b).mono ?_
  rintro e w1 ⟨rfl, hb⟩
  have HX := Lib.hid (show (w1.alloc (.cells #[.int .i64 0, .int .i64 0, .int .i64 0, .int .i64 0, .int .i64 0, .int .i64 0, .int .i64 0] 42)).heap[w.heap.size]? = some (.cells #[.int .i64 x, .bool b] 81 (0, 0)) from alOld ((hb.block _ (by simp)).trans (alNew rfl)))
  have HE := Lib.hid (show (w1.alloc (.cells #[.int .i64 0, .int .i64 0, .int .i64 0, .int .i64 0, .int .i64 0, .int .i64 0, .int .i64 0] 42)).heap[w1.heap.size]? = some (.cells #[.int .i64 0, .int .i64 0, .int .i64 0, .int .i64 0, .int .i64 0, .int .i64 0, .int .i64 0] 42 (0, 0)) from alNew rfl)
  have HB := Lib.hid (show Below w.heap.size w (w1.alloc (.cells #[.int .i64 0, .int .i64 0, .int .i64 0, .int .i64 0, .int .i64 0, .int .i64 0, .int .i64 0] 42)) from ext_alloc _ (ext_trans (ext_alloc _ (Below.refl _ _)) hb))
  have x0 := cell_at ((hb.block w.heap.size (by simp)).trans (alNew rfl)) 0 (.int .i64 x) rfl
  have xl : w.heap.size < w1.heap.size := by have := hb.size; simp at this; omega
  clear hb
  go_wp2_with fail
  generalize w1.alloc (.cells #[.int .i64 0, .int .i64 0, .int .i64 0, .int .i64 0, .int .i64 0, .int .i64 0, .int .i64 0] 42) = W1 at *
  generalize w1.heap.size = be at *
  refine (anext_nil x).mono ?_
  rintro e w2 ⟨rfl, hb⟩
  have hx := (hb.block _ (lt_of HX.out)).trans HX.out
  have HX := Lib.hid (show (w2.alloc (.cells #[.int .i64 0, .int .i64 0, .int .i64 0, .int .i64 0] 36)).heap[w.heap.size]? = some (.cells #[.int .i64 x, .bool b] 81 (0, 0)) from alOld hx)
  have HE := Lib.hid (show (w2.alloc (.cells #[.int .i64 0, .int .i64 0, .int .i64 0, .int .i64 0] 36)).heap[be]? = some (.cells #[.int .i64 0, .int .i64 0, .int .i64 0, .int .i64 0, .int .i64 0, .int .i64 0, .int .i64 0] 42 (0, 0)) from alOld ((hb.block _ (lt_of HE.out)).trans HE.out))
  have HI := Lib.hid (show (w2.alloc (.cells #[.int .i64 0, .int .i64 0, .int .i64 0, .int .i64 0] 36)).heap[w2.heap.size]? = some (.cells #[.int .i64 0, .int .i64 0, .int .i64 0, .int .i64 0] 36 (0, 0)) from alNew rfl)
  have HB := Lib.hid (show Below w.heap.size w (w2.alloc (.cells #[.int .i64 0, .int .i64 0, .int .i64 0, .int .i64 0] 36)) from ext_alloc _ (ext_trans HB.out hb))
  have x0 := cell_at hx 0 (.int .i64 x) rfl
  have xl := lt_of hx
  clear hb hx
  go_wp2_with fail
  generalize w2.alloc (.cells #[.int .i64 0, .int .i64 0, .int .i64 0, .int .i64 0] 36) = W2 at *
  generalize w2.heap.size = bi at *
  refine (acore_nil x W2).mono ?_
  rintro e w3 ⟨rfl, hb⟩
  have HE := Lib.hid (show (w3.alloc (.cells #[.int .i64 0, .int .i64 0, .int .i64 0, .int .i64 0, .int .i64 0, .int .i64 0, .bool false] 32)).heap[be]? = some (.cells #[.int .i64 0, .int .i64 0, .int .i64 0, .int .i64 0, .int .i64 0, .int .i64 0, .int .i64 0] 42 (0, 0)) from alOld ((hb.block _ (lt_of HE.out)).trans HE.out))
  have HI := Lib.hid (show (w3.alloc (.cells #[.int .i64 0, .int .i64 0, .int .i64 0, .int .i64 0, .int .i64 0, .int .i64 0, .bool false] 32)).heap[bi]? = some (.cells #[.int .i64 0, .int .i64 0, .int .i64 0, .int .i64 0] 36 (0, 0)) from alOld ((hb.block _ (lt_of HI.out)).trans HI.out))
  have HC := Lib.hid (show (w3.alloc (.cells #[.int .i64 0, .int .i64 0, .int .i64 0, .int .i64 0, .int .i64 0, .int .i64 0, .bool false] 32)).heap[w3.heap.size]? = some (.cells #[.int .i64 0, .int .i64 0, .int .i64 0, .int .i64 0, .int .i64 0, .int .i64 0, .bool false] 32 (0, 0)) from alNew rfl)
  have HB := Lib.hid (show Below w.heap.size w (w3.alloc (.cells #[.int .i64 0, .int .i64 0, .int .i64 0, .int .i64 0, .int .i64 0, .int .i64 0, .bool false] 32)) from ext_alloc _ (ext_trans HB.out hb))
  clear hb x0 xl HX
  go_wp2_with fail
  generalize w3.alloc (.cells #[.int .i64 0, .int .i64 0, .int .i64 0, .int .i64 0, .int .i64 0, .int .i64 0, .bool false] 32) = W3 at *
  generalize w3.heap.size = bc at *
  refine (aowner_nil n W3).mono ?_
  rintro e w4 ⟨rfl, hw⟩
  subst hw
  go_wp2_with fail
  refine (aget_nil n _).mono ?_
  rintro e w5 ⟨rfl, hw⟩
  subst hw
  obtain ⟨x0, x1, x2, x3, x4, x5, x6, xf, xl⟩ := ev_cells HE.out
  obtain ⟨i0, i1, i2, i3, iF, il⟩ := four_cells HI.out
  obtain ⟨c0, c1, c2, c3, c4, c5, c6, cf, cl⟩ := ev_cells HC.out
  go_wp2_with fail
  refine (acopy_nil _).mono ?_
  rintro e w6 ⟨rfl, hw⟩
  subst hw
  go_wp2_with fail
  refine (awake11 _ (HL.out.ext HB.out) (HO.out.ext HB.out)).mono ?_
  rintro e w7 ⟨rfl, hb⟩
  go_wp2_with fail
  go_ret
  exact ⟨rfl, ext_trans HB.out hb⟩
set_option maxRecDepth 100000 in
set_option maxHeartbeats 4000000 in
theorem atomjudges (call wo ow tw : Int) (w : World) (hL : Lims w) (hO : Ops w) :
    Calls Tryd.prog 6 #[.agg #[.int .i64 call, .int .i64 wo], .int .i64 ow, .int .i64 tw] w fun e w' => e = .returned (.bool true) ∧ Below w.heap.size w w' := by
  have HL := Lib.hid hL
  have HO := Lib.hid hO
  have hj1 := fun W => judge_any call wo ow tw W
  have hj2 := fun W => rjudge_any call wo ow tw W
  generalize judge call wo ow tw = j at hj1 hj2
  have HJ1 := Lib.hid hj1
  have HJ2 := Lib.hid hj2
  clear hL hO hj1 hj2
  go_enter Tryd.func6, Tryd.ntmps6
  go_wp2_with fail
  refine (HJ1.out _).mono ?_
  rintro e w1 ⟨rfl, hb⟩
  have HB := Lib.hid (ext_trans (ext_alloc _ (Below.refl _ _)) hb)
  have hx := (hb.block w.heap.size (by simp)).trans (alNew rfl)
  have x0 := cell_at hx 0 (.int .i64 call) rfl
  have x1 := cell_at hx 1 (.int .i64 wo) rfl
  have xl := lt_of hx
  clear hb hx
  go_wp2_with fail
  refine (HJ2.out _).mono ?_
  rintro e w2 ⟨rfl, hw⟩
  subst hw
  go_wp2_with fail
  refine (awake11 _ (HL.out.ext HB.out) (HO.out.ext HB.out)).mono ?_
  rintro e w7 ⟨rfl, hb⟩
  go_wp2_with fail
  go_ret
  exact ⟨rfl, ext_trans HB.out hb⟩
end Go.Proofs.YtkobeajbiendlaaDoor
