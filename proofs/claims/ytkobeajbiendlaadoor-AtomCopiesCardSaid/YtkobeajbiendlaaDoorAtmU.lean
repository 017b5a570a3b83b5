/- What this text holds: the example of chapter 11. Conditions: the tables of limits and of ops hold what their initialisers lay. -/
import Derived.Test.YtkobeajbiendlaaDoorAtmT
namespace Go.Proofs.YtkobeajbiendlaaDoor
open Go.RowKit

def exP : List Ins := [⟨1, 0, 2, 0⟩, ⟨1, 1, 7, 0⟩, ⟨4, 1, 0, 0⟩, ⟨3, 2, 0, 0⟩, ⟨1, 0, 4, 0⟩, ⟨3, 3, 0, 0⟩]
def exC : Cfg := ⟨1, 2, 1, 1, 1, 1, 1⟩
def exL (A : Option Addr) : List Pr := [⟨A, 6, exP⟩]
def exD : List Int := [0, 0, 0, 0, 0, 0, 0, 0]
def exM (A : Option Addr) : Nat → Ma
  | 0 => maNew exC (exL A) [1] [1, 0] exD 1
  | k + 1 => ((exM A k).stepA 0 false).2.2
theorem ex_new (A : Option Addr) : newE11 exC (exL A) [1] [1, 0] exD = 0 := by kernel_rfl
def exE : Nat → Ev × Int
  | 0 => (⟨0, 0, 1, 1, 0, 2, 0⟩, 0)
  | 1 => (⟨0, 1, 1, 1, 0, 7, 0⟩, 0)
  | 2 => (⟨0, 2, 4, 1, 2, 7, 0⟩, 0)
  | 3 => (⟨0, 3, 3, 1, 2, 7, 0⟩, 0)
  | 4 => (⟨0, 4, 1, 1, 0, 4, 0⟩, 0)
  | _ => (⟨0, 5, 3, 1, 4, 0, 19⟩, 0)
theorem ex_ev0 (A : Option Addr) : ((exM A 0).stepA 0 false).1 = (exE 0).1 ∧ ((exM A 0).stepA 0 false).2.1 = 0 := ⟨by kernel_rfl, by kernel_rfl⟩
theorem ex_ev1 (A : Option Addr) : ((exM A 1).stepA 0 false).1 = (exE 1).1 ∧ ((exM A 1).stepA 0 false).2.1 = 0 := ⟨by kernel_rfl, by kernel_rfl⟩
theorem ex_ev2 (A : Option Addr) : ((exM A 2).stepA 0 false).1 = (exE 2).1 ∧ ((exM A 2).stepA 0 false).2.1 = 0 := ⟨by kernel_rfl, by kernel_rfl⟩
theorem ex_ev3 (A : Option Addr) : ((exM A 3).stepA 0 false).1 = (exE 3).1 ∧ ((exM A 3).stepA 0 false).2.1 = 0 := ⟨by kernel_rfl, by kernel_rfl⟩
theorem ex_ev4 (A : Option Addr) : ((exM A 4).stepA 0 false).1 = (exE 4).1 ∧ ((exM A 4).stepA 0 false).2.1 = 0 := ⟨by kernel_rfl, by kernel_rfl⟩
theorem ex_ev5 (A : Option Addr) : ((exM A 5).stepA 0 false).1 = (exE 5).1 ∧ ((exM A 5).stepA 0 false).2.1 = 0 := ⟨by kernel_rfl, by kernel_rfl⟩
theorem ex_ev (A : Option Addr) (k : Nat) (hk : k < 6) : ((exM A k).stepA 0 false).1 = (exE k).1 ∧ ((exM A k).stepA 0 false).2.1 = 0 := by
  have : k = 0 ∨ k = 1 ∨ k = 2 ∨ k = 3 ∨ k = 4 ∨ k = 5 := by omega
  rcases this with rfl | rfl | rfl | rfl | rfl | rfl
  · exact ex_ev0 A
  · exact ex_ev1 A
  · exact ex_ev2 A
  · exact ex_ev3 A
  · exact ex_ev4 A
  · exact ex_ev5 A
def exLast : Nat → Ev
  | 0 => Ev.zero
  | k + 1 => (exE k).1
theorem ex_good (A : Option Addr) : ∀ k, (exM A k).Good
  | 0 => Ma.Good.new (l := exL A) (ex_new A)
  | k + 1 => (ex_good A k).stepA _ _
theorem mk_eight (w : World) : (Instr.makeSlice 67 (.int .i64 8) (.int .i64 8)).run Tryd.prog w = .ok (.slice (some ⟨w.heap.size, 0, none⟩) 8 8) (w.alloc (.cells #[.int .i64 0, .int .i64 0, .int .i64 0, .int .i64 0, .int .i64 0, .int .i64 0, .int .i64 0, .int .i64 0] 3)) := by
  obtain ⟨i0, hi, hz0, hz1, hz2⟩ := info_parts info_int11
  rw [run_make (P := Tryd.prog) w 67 3 i0 _ Tryd.underlying67 hi hz0 .i64 .i64 8 8 (by omega) (Int.le_refl _) (by rw [hz2]; omega) (by omega), hz1]
  kernel_rfl
theorem ex_world (w : World) : ∃ W, W = ((((w.alloc (.cells #[.int .i64 1, .int .i64 0, .int .i64 2, .int .i64 0, .int .i64 1, .int .i64 1, .int .i64 7, .int .i64 0, .int .i64 4, .int .i64 1, .int .i64 0, .int .i64 0, .int .i64 3, .int .i64 2, .int .i64 0, .int .i64 0, .int .i64 1, .int .i64 0, .int .i64 4, .int .i64 0, .int .i64 3, .int .i64 3, .int .i64 0, .int .i64 0] 36)).alloc (.cells #[.slice (some ⟨w.heap.size, 0, none⟩) 6 6] 22)).alloc (.cells #[.int .i64 1] 3)).alloc (.cells #[.int .i64 1, .int .i64 0] 3)).alloc (.cells #[.int .i64 0, .int .i64 0, .int .i64 0, .int .i64 0, .int .i64 0, .int .i64 0, .int .i64 0, .int .i64 0] 3) ∧ Below w.heap.size w W ∧ SlR W (some ⟨w.heap.size + 1, 0, none⟩) (exL (some ⟨w.heap.size, 0, none⟩)) ∧ SlI W (some ⟨w.heap.size + 1 + 1, 0, none⟩) [1] ∧ SlI W (some ⟨w.heap.size + 1 + 1 + 1, 0, none⟩) [1, 0] ∧ SlI W (some ⟨w.heap.size + 1 + 1 + 1 + 1, 0, none⟩) exD := by
  refine ⟨_, rfl, (by repeat (with_reducible first | exact Below.refl _ _ | assumption | (refine ext_next (by assumption) ?_) | apply ext_alloc | apply ext_past | apply ext_drew | apply ext_drewN)), ?_⟩
  generalize hW : ((((w.alloc (.cells #[.int .i64 1, .int .i64 0, .int .i64 2, .int .i64 0, .int .i64 1, .int .i64 1, .int .i64 7, .int .i64 0, .int .i64 4, .int .i64 1, .int .i64 0, .int .i64 0, .int .i64 3, .int .i64 2, .int .i64 0, .int .i64 0, .int .i64 1, .int .i64 0, .int .i64 4, .int .i64 0, .int .i64 3, .int .i64 3, .int .i64 0, .int .i64 0] 36)).alloc (.cells #[.slice (some ⟨w.heap.size, 0, none⟩) 6 6] 22)).alloc (.cells #[.int .i64 1] 3)).alloc (.cells #[.int .i64 1, .int .i64 0] 3)).alloc (.cells #[.int .i64 0, .int .i64 0, .int .i64 0, .int .i64 0, .int .i64 0, .int .i64 0, .int .i64 0, .int .i64 0] 3) = W
  have a0 : W.heap[w.heap.size]? = some (.cells #[.int .i64 1, .int .i64 0, .int .i64 2, .int .i64 0, .int .i64 1, .int .i64 1, .int .i64 7, .int .i64 0, .int .i64 4, .int .i64 1, .int .i64 0, .int .i64 0, .int .i64 3, .int .i64 2, .int .i64 0, .int .i64 0, .int .i64 1, .int .i64 0, .int .i64 4, .int .i64 0, .int .i64 3, .int .i64 3, .int .i64 0, .int .i64 0] 36 (0, 0)) := by rw [← hW]; exact alOld (alOld (alOld (alOld (alNew rfl))))
  have a1 : W.heap[w.heap.size + 1]? = some (.cells #[.slice (some ⟨w.heap.size, 0, none⟩) 6 6] 22 (0, 0)) := by rw [← hW]; exact alOld (alOld (alOld (alNew (by simp))))
  have a2 : W.heap[w.heap.size + 1 + 1]? = some (.cells #[.int .i64 1] 3 (0, 0)) := by rw [← hW]; exact alOld (alOld (alNew (by simp)))
  have a3 : W.heap[w.heap.size + 1 + 1 + 1]? = some (.cells #[.int .i64 1, .int .i64 0] 3 (0, 0)) := by rw [← hW]; exact alOld (alNew (by simp))
  have a4 : W.heap[w.heap.size + 1 + 1 + 1 + 1]? = some (.cells #[.int .i64 0, .int .i64 0, .int .i64 0, .int .i64 0, .int .i64 0, .int .i64 0, .int .i64 0, .int .i64 0] 3 (0, 0)) := by rw [← hW]; exact alNew (by simp)
  clear hW
  refine ⟨⟨fun _ => ⟨_, 0, rfl, lt_of a1, fun i hi => ?_⟩, fun i hi => ?_⟩, fun _ => ⟨_, 0, rfl, lt_of a2, fun i hi => ?_⟩, fun _ => ⟨_, 0, rfl, lt_of a3, fun i hi => ?_⟩, fun _ => ⟨_, 0, rfl, lt_of a4, fun i hi => ?_⟩⟩
  · obtain rfl : i = 0 := by simp [exL] at hi; omega
    simp [World.cell?, a1, atR, exL, exP]
  · obtain rfl : i = 0 := by simp [exL] at hi; omega
    refine ⟨fun _ => ⟨w.heap.size, 0, rfl, lt_of a0, fun i hi => ?_⟩, fun e => by cases e⟩
    have : i = 0 ∨ i = 1 ∨ i = 2 ∨ i = 3 ∨ i = 4 ∨ i = 5 := by simp [atR, exL, exP] at hi; omega
    rcases this with rfl | rfl | rfl | rfl | rfl | rfl <;> refine ⟨?_, ?_, ?_, ?_⟩ <;> simp [World.cell?, a0, atR, exL, atI, exP]
  · obtain rfl : i = 0 := by simp at hi; omega
    simp [World.cell?, a2]
  · have : i = 0 ∨ i = 1 := by simp at hi; omega
    rcases this with rfl | rfl <;> simp [World.cell?, a3]
  · have : i = 0 ∨ i = 1 ∨ i = 2 ∨ i = 3 ∨ i = 4 ∨ i = 5 ∨ i = 6 ∨ i = 7 := by simp [exD] at hi; omega
    rcases this with rfl | rfl | rfl | rfl | rfl | rfl | rfl | rfl <;> simp [World.cell?, a4, exD]
set_option maxRecDepth 100000 in
set_option maxHeartbeats 4000000 in
theorem awake11 (w : World) (hL : Lims w) (hO : Ops w) : Calls Tryd.prog 27 #[] w fun e w' => e = .returned (.bool true) ∧ Below w.heap.size w w' := by
  have HL := Lib.hid hL
  have HO := Lib.hid hO
  clear hL hO
  have hmk := mk_eight
  obtain ⟨W, hW, hb, h1, h2, h3, h4⟩ := ex_world w
  have HN := Lib.hid (amade exC _ _ _ _ (exL (some ⟨w.heap.size, 0, none⟩)) [1] [1, 0] exD 1 1 2 8 W (HL.out.ext hb) (HO.out.ext hb) h1 h2 h3 h4)
  have HB := Lib.hid hb
  have HW := Lib.hid hW
  clear hW hb h1 h2 h3 h4
  go_enter Tryd.func27, Tryd.ntmps27
  go_wp2_with fail
  rw [← HW.out]
  refine HN.out.mono ?_
  generalize hA : (some ⟨w.heap.size, 0, none⟩ : Option Addr) = A at *
  rintro e w1 ⟨⟨h0, p, lo, hi, rfl, hM, hlo⟩ | ⟨h0, _⟩, hb⟩
  case inr => exact absurd (ex_new A) h0
  have HM1 := Lib.hid (show Mc w1 lo hi p (exM A 0) from hM)
  have HLO := Lib.hid (Nat.le_trans HB.out.size hlo)
  have HB1 := Lib.hid (ext_trans HB.out hb)
  clear h0 hM hlo hb hmk HN
  go_wp2_with fail
  go_loopg [5] 4 (fun g s5 wr => ∃ k : Nat, s5 = .int .i64 k ∧ k + g = 4 ∧ Hid (Mc wr lo hi p (exM A k) ∧ Below w.heap.size w wr ∧ hi ≤ w1.heap.size ∧ wr.heap[w1.heap.size]? = some (.cells (exLast k).cells.toArray 42 (0, 0))))
  case atStart => exact ⟨0, rfl, by omega, Lib.hid ⟨HM1.out.ext (ext_alloc _ (Below.refl _ _)), ext_alloc _ HB1.out, HM1.out.sz.1, alNew rfl⟩⟩
  case round =>
    obtain ⟨k, rfl, hk, HR⟩ := hrel
    by_cases hlt : k < 4
    · have ek : decide ((k : Int) < 4) = true := by simp; omega
      have ek2 : decide (k < 4) = true := by simpa using hlt
      have HKK := Lib.hid (And.intro hk hlt)
      have hk4 : (k : Int) ≤ 4 := by omega
      have HS := astep_all HR.out.1 (ex_good A k) (HL.out.ext HR.out.2.1) 0 false
      rw [(ex_ev A k (by omega)).1, (ex_ev A k (by omega)).2] at HS
      have HS := Lib.hid HS
      clear hk hlt
      go_wp2_with fail
      refine HS.out.mono ?_
      rintro e w2 ⟨rfl, hM, hr⟩
      have HM2 := Lib.hid (show Mc w2 lo hi p (exM A (k + 1)) from hM)
      have HX2 := Lib.hid ((hr.block _ (lt_of HR.out.2.2.2) (.inr HR.out.2.2.1)).trans HR.out.2.2.2)
      have HB2 := Lib.hid (hr.below HR.out.2.1 HLO.out)
      clear hM hr HS
      obtain ⟨x0, x1, x2, x3, x4, x5, x6, xf, xl⟩ := ev_cells HX2.out
      have HE : Hid (exLast (k + 1) = (exE k).1) := Lib.hid rfl
      generalize (exE k).1 = ev at *
      go_wp2_with fail
      obtain ⟨W3, hW3⟩ : ∃ W3, W3 = set7 w2 w1.heap.size (.int .i64 ev.co) (.int .i64 ev.a) (.int .i64 ev.op) (.int .i64 ev.wo) (.int .i64 ev.wd) (.int .i64 ev.va) (.int .i64 ev.cd) := ⟨_, rfl⟩
      have hbk := set7_blk (.int .i64 ev.co) (.int .i64 ev.a) (.int .i64 ev.op) (.int .i64 ev.wo) (.int .i64 ev.wd) (.int .i64 ev.va) (.int .i64 ev.cd) HX2.out
      have hgr := set7_grown w2 w1.heap.size (.int .i64 ev.co) (.int .i64 ev.a) (.int .i64 ev.op) (.int .i64 ev.wo) (.int .i64 ev.wd) (.int .i64 ev.va) (.int .i64 ev.cd)
      rw [← hW3] at hbk hgr
      unfold set7 at hW3
      rw [← hW3]
      have HB3 : Hid (Below w.heap.size w W3) := Lib.hid (HB2.out.grown hgr HB2.out.size (fun k e => by cases e; exact HB1.out.size))
      have HM3 : Hid (Mc W3 lo hi p (exM A (k + 1))) := Lib.hid (HM2.out.keep (fun g h1 h2 => hgr.block g (by have := HM2.out.sz; omega) (by have := HR.out.2.2.1; intro e; cases e; omega)) hgr.size)
      have HX3 : Hid (W3.heap[w1.heap.size]? = some (.cells (exLast (k + 1)).cells.toArray 42 (0, 0))) := Lib.hid (by rw [HE.out]; exact hbk)
      have HH := Lib.hid HR.out.2.2.1
      clear hbk hgr hW3 x0 x1 x2 x3 x4 x5 x6 xf xl
      go_wp2_with fail
      go_roundg (4 - (k + 1))
      case measure => have := HKK.out; omega
      case rel => exact ⟨k + 1, by go_num, by have := HKK.out; omega, Lib.hid ⟨HM3.out, HB3.out, HH.out, HX3.out⟩⟩
    · have ek : decide ((k : Int) < 4) = false := by simp; omega
      have ek2 : decide (k < 4) = false := by simpa using hlt
      obtain rfl : k = 4 := by omega
      clear hk hlt
      have HS := astep_all HR.out.1 (ex_good A 4) (HL.out.ext HR.out.2.1) 0 false
      rw [(ex_ev A 4 (by omega)).1, (ex_ev A 4 (by omega)).2] at HS
      have HS := Lib.hid HS
      go_wp2_with fail
      refine HS.out.mono ?_
      rintro e w2 ⟨rfl, hM, hr⟩
      have HM2 := Lib.hid (show Mc w2 lo hi p (exM A (4 + 1)) from hM)
      have HX2 := Lib.hid ((hr.block _ (lt_of HR.out.2.2.2) (.inr HR.out.2.2.1)).trans HR.out.2.2.2)
      have HB2 := Lib.hid (hr.below HR.out.2.1 HLO.out)
      clear hM hr HS
      have HS := astep_all HM2.out (ex_good A 5) (HL.out.ext HB2.out) 0 false
      rw [(ex_ev A 5 (by omega)).1, (ex_ev A 5 (by omega)).2] at HS
      have HS := Lib.hid HS
      go_wp2_with fail
      refine HS.out.mono ?_
      rintro e w3 ⟨rfl, hM, hr⟩
      have HX3 := Lib.hid ((hr.block _ (lt_of HX2.out) (.inr HR.out.2.2.1)).trans HX2.out)
      have HB3 := Lib.hid (hr.below HB2.out HLO.out)
      clear hM hr HS
      obtain ⟨x0, x1, x2, x3, x4, x5, x6, xf, xl⟩ := ev_cells HX3.out
      dsimp only [exLast, exE] at x4 x5
      clear x0 x1 x2 x3 x6
      go_wp2_with fail
      go_ret
      exact ⟨rfl, ext_alloc _ HB3.out⟩
end Go.Proofs.YtkobeajbiendlaaDoor
