/- What this text holds: a machine and the document's, told by the same plain words, are found to be the same. Condition: the table of limits holds what its initialiser lays. -/
import Derived.Test.YtkobeajbiendlaaDoorRf11E
import Derived.Test.YtkobeajbiendlaaDoorRf11C
import Derived.Test.YtkobeajbiendlaaDoorRf11I
import Derived.Test.YtkobeajbiendlaaDoorAtmT
import Derived.Deep.RegionHeld3
import Derived.Deep.RegionWith
import Derived.Deep.CutRange
namespace Go.Proofs.YtkobeajbiendlaaDoor
open Go.RowKit

theorem seven_cells {W : World} {B : Nat} {a b c d e f g : Value} {t : TypeId} {fr : Nat × Nat} (hh : W.heap[B]? = some (.cells #[a, b, c, d, e, f, g] t fr)) :
    W.cell? ⟨B, 0, none⟩ = some a ∧ W.cell? ⟨B, 1, none⟩ = some b ∧ W.cell? ⟨B, 2, none⟩ = some c ∧ W.cell? ⟨B, 3, none⟩ = some d ∧ W.cell? ⟨B, 4, none⟩ = some e ∧ W.cell? ⟨B, 5, none⟩ = some f ∧ W.cell? ⟨B, 6, none⟩ = some g ∧ B < W.heap.size := by
  refine ⟨?_, ?_, ?_, ?_, ?_, ?_, ?_, lt_of hh⟩ <;> simp [World.cell?, hh]

section
variable {w : World} {lo hi q bL bO bW cl co cw lo2 hi2 p : Nat} {P : Nat → Value} {M : Ma}
set_option maxRecDepth 100000 in
set_option maxHeartbeats 8000000 in
theorem dsame_any (hm : Mc w lo2 hi2 p M) (h : Dk w lo hi q bL bO bW cl co cw P M) (hg : M.Good) (hr : M.Rng) (hL : Lims w) :
    Calls Tryd.prog 37 #[.pointer (some ⟨p, 0, none⟩), .pointer (some ⟨q, 0, none⟩)] w fun e w' => e = .returned (.bool true) ∧ Below w.heap.size w w' := by
  have HM := Lib.hid hm
  have HL := Lib.hid hL
  have H := Lib.hid h
  have HG := Lib.hid hg
  have HR := Lib.hid hr
  have HN4 := Lib.hid (Ma.n_of hg.1)
  obtain ⟨N2, hN2⟩ : ∃ N, N = 2 * M.m.n := ⟨_, rfl⟩
  have HN2 := Lib.hid hN2
  clear hm h hg hr hN2 hL
  go_enter Tryd.func37, Tryd.ntmps37
  go_wp2_with fail
  go_loopg [5] (M.nc + 2) (fun g s5 wr => ∃ k : Nat, s5 = .int .i64 ((k : Int) - 1) ∧ k + g = M.nc + 2 ∧ Hid (Below w.heap.size w wr))
  case atStart => exact ⟨0, rfl, by omega, Lib.hid (Below.refl _ _)⟩
  case round =>
    obtain ⟨k, rfl, hk, HW⟩ := hrel
    obtain ⟨x, hx⟩ : ∃ x : Int, x = (k : Int) - 1 := ⟨_, rfl⟩
    rw [← hx]
    have HX := Lib.hid hx
    have hnn := HN4.out
    have hnc4 : (M.nc : Int) ≤ 4 := by omega
    have hxb : (-1 : Int) ≤ x ∧ x ≤ 5 := by omega
    obtain ⟨hxb1, hxb2⟩ := hxb
    obtain ⟨t0, t1, t2⟩ := (H.out.ext HW.out).tops
    obtain ⟨l1, l2, l3, l4⟩ := (H.out.ext HW.out).lt
    rw [← HN2.out] at t2
    by_cases hlt : k ≤ M.nc + 1
    · have e1 : decide (x ≤ (M.nc : Int)) = true := by simp; omega
      have HKLT := Lib.hid (And.intro hk hlt)
      have HC := Lib.hid (fun (W : World) (hb : Below wr.heap.size wr W) => acore_all (HM.out.ext (ext_trans HW.out hb)) x)
      have HNX := Lib.hid (fun (W : World) (hb : Below wr.heap.size wr W) => anext_all (HM.out.ext (ext_trans HW.out hb)) HG.out x)
      by_cases hin : x < 0 ∨ x = M.nc
      · have hcA : M.coreA x = (Se.zero, 10) := by unfold Ma.coreA; rw [if_pos (by omega)]
        have hnA : M.nextA x = (Ins.none, false) := by unfold Ma.nextA; rw [if_pos (by omega)]
        rw [hcA] at HC
        rw [hnA] at HNX
        have HC := Lib.hid (show ∀ W, Below wr.heap.size wr W → Calls Tryd.prog 33 #[.pointer (some ⟨p, 0, none⟩), .int .i64 x] W fun e w' => e = .returned (.tuple #[.agg #[.int .i64 0, .int .i64 0, .int .i64 0, .int .i64 0, .int .i64 0, .int .i64 0, .bool false], .int .i64 10]) ∧ Below W.heap.size W w' from HC.out)
        have HNX := Lib.hid (show ∀ W, Below wr.heap.size wr W → Calls Tryd.prog 43 #[.pointer (some ⟨p, 0, none⟩), .int .i64 x] W fun e w' => e = .returned (.tuple #[.agg #[.int .i64 0, .int .i64 0, .int .i64 0, .int .i64 0], .bool false]) ∧ Below W.heap.size W w' from HNX.out)
        have hz1 := fun w => neqCoreS w 0 0 0 0 0 0 false
        have hz2 := fun w => neqInsS w 0 0 0 0
        clear hcA hnA hk hlt hx hnn
        by_cases h0 : x < 0
        · have e2 : decide (x < 0) = true := by simpa using h0
          clear hin h0
          go_wp2_with fail
          refine (HC.out _ (Below.refl _ _)).mono ?_
          rintro e w1 ⟨rfl, hb⟩
          have HB1 := Lib.hid hb
          clear hb
          go_wp2_with fail
          refine (HNX.out _ (ext_alloc _ HB1.out)).mono ?_
          rintro e w2 ⟨rfl, hb2⟩
          obtain ⟨c0, c1, c2, c3, c4, c5, c6, c7⟩ := seven_cells ((hb2.block w1.heap.size (by simp)).trans (alNew rfl))
          have HB12 := Lib.hid (ext_trans (ext_alloc _ HB1.out) hb2)
          have HB2 := Lib.hid (ext_trans HW.out HB12.out)
          clear hb2 t0 t1 t2 l1 l2 l3 l4
          obtain ⟨t0, t1, t2⟩ := (H.out.ext HB2.out).tops
          obtain ⟨l1, l2, l3, l4⟩ := (H.out.ext HB2.out).lt
          rw [← HN2.out] at t2
          go_wp2_with fail
          go_roundg (M.nc + 2 - (k + 1))
          case measure => have := HKLT.out; omega
          case rel => exact ⟨k + 1, by rw [show x + 1 = ((k + 1 : Nat) : Int) - 1 by have := HX.out; omega], by have := HKLT.out; omega, Lib.hid (ext_alloc _ HB2.out)⟩
        · have e2 : decide (x < 0) = false := by simpa using h0
          have e3 : (x == (M.nc : Int)) = true := by simp; omega
          clear hin h0
          go_wp2_with fail
          refine (HC.out _ (Below.refl _ _)).mono ?_
          rintro e w1 ⟨rfl, hb⟩
          have HB1 := Lib.hid hb
          clear hb
          go_wp2_with fail
          refine (HNX.out _ (ext_alloc _ HB1.out)).mono ?_
          rintro e w2 ⟨rfl, hb2⟩
          obtain ⟨c0, c1, c2, c3, c4, c5, c6, c7⟩ := seven_cells ((hb2.block w1.heap.size (by simp)).trans (alNew rfl))
          have HB12 := Lib.hid (ext_trans (ext_alloc _ HB1.out) hb2)
          have HB2 := Lib.hid (ext_trans HW.out HB12.out)
          clear hb2 t0 t1 t2 l1 l2 l3 l4
          obtain ⟨t0, t1, t2⟩ := (H.out.ext HB2.out).tops
          obtain ⟨l1, l2, l3, l4⟩ := (H.out.ext HB2.out).lt
          rw [← HN2.out] at t2
          go_wp2_with fail
          go_roundg (M.nc + 2 - (k + 1))
          case measure => have := HKLT.out; omega
          case rel => exact ⟨k + 1, by rw [show x + 1 = ((k + 1 : Nat) : Int) - 1 by have := HX.out; omega], by have := HKLT.out; omega, Lib.hid (ext_alloc _ HB2.out)⟩
      · obtain ⟨j, rfl⟩ : ∃ j : Nat, x = j := ⟨x.toNat, by omega⟩
        have hjl : j < M.nc := by omega
        have e2 : decide ((j : Int) < 0) = false := by simp
        have e3 : ((j : Int) == (M.nc : Int)) = false := by simp; omega
        have e3' : (j == M.nc) = false := by simp; omega
        have e1' : decide (j ≤ M.nc) = true := by simp; omega
        have hcA : M.coreA j = (M.se j, 0) := by unfold Ma.coreA; rw [if_neg (by omega), Int.toNat_natCast]
        obtain ⟨s, hs⟩ : ∃ s, s = M.se j := ⟨_, rfl⟩
        have hov : endB s.ps s.a = s.ov := by rw [hs]; exact ((HG.out.2 j hjl).2).symm
        have ha0 := HR.out.a j hjl
        have HOV := Lib.hid (fun (W : World) (hb : Below wr.heap.size wr W) => dover_any (H.out.ext (ext_trans HW.out hb)) HG.out j hjl ha0)
        have HDK := Lib.hid (fun (W : World) (hb : Below wr.heap.size wr W) => (H.out.ext (ext_trans HW.out hb)).core j hjl)
        have hgp := (HG.out.2 j hjl).1
        obtain ⟨A, c, hP, hS, _⟩ := ((H.out.ext HW.out).pg j hjl).1
        rw [hP] at HDK
        rw [hcA] at HC
        rw [← hs] at HC HOV HDK hS ha0 hgp
        rw [hov] at HOV
        have hxl : (j : Int) < (M.nc : Int) := by omega
        have HC := Lib.hid (show ∀ W, Below wr.heap.size wr W → Calls Tryd.prog 33 #[.pointer (some ⟨p, 0, none⟩), .int .i64 j] W fun e w' => e = .returned (.tuple #[.agg #[.int .i64 (s.r 0), .int .i64 (s.r 1), .int .i64 (s.r 2), .int .i64 (s.r 3), .int .i64 s.a, .int .i64 s.wo, .bool s.ov], .int .i64 0]) ∧ Below W.heap.size W w' from HC.out)
        have hz1 := fun w => neqCoreS w (s.r 0) (s.r 1) (s.r 2) (s.r 3) s.a s.wo s.ov
        have hz2 := fun w => neqInsS w 0 0 0 0
        cases hovs : s.ov
        · have he : endB s.ps s.a = false := by rw [hov]; exact hovs
          obtain ⟨ka, hka, hkl, h11⟩ := endB_no he
          obtain ⟨xi, hxi⟩ : ∃ i, i = atI s.ps ka := ⟨_, rfl⟩
          have hnA : M.nextA j = (xi, true) := by
            unfold Ma.nextA
            rw [if_neg (by omega), Int.toNat_natCast, ← hs, hovs, hka, Int.toNat_natCast, ← hxi]
            rfl
          rw [hnA] at HNX
          obtain ⟨bb, off, hA, hbb, hcs⟩ := hS (by omega)
          have hpc := hcs ka hkl
          rw [← hxi] at hpc
          have HPC := Lib.hid (And.intro hbb hpc)
          have hkl' : (ka : Int) < (s.ps.length : Int) := by omega
          have hk32 : (ka : Int) ≤ 32 := by have := hgp.1; omega
          rw [hovs] at HOV hz1 HC
          rw [hka] at hz1 HC HDK
          subst hA
          have HNX := Lib.hid (show ∀ W, Below wr.heap.size wr W → Calls Tryd.prog 43 #[.pointer (some ⟨p, 0, none⟩), .int .i64 j] W fun e w' => e = .returned (.tuple #[.agg #[.int .i64 xi.op, .int .i64 xi.a, .int .i64 xi.b, .int .i64 xi.c], .bool true]) ∧ Below W.heap.size W w' from HNX.out)
          obtain ⟨so, hso⟩ : ∃ v, v = s.wo := ⟨_, rfl⟩
          obtain ⟨r0, hr0⟩ : ∃ v, v = s.r 0 := ⟨_, rfl⟩
          obtain ⟨r1, hr1⟩ : ∃ v, v = s.r 1 := ⟨_, rfl⟩
          obtain ⟨r2, hr2⟩ : ∃ v, v = s.r 2 := ⟨_, rfl⟩
          obtain ⟨r3, hr3⟩ : ∃ v, v = s.r 3 := ⟨_, rfl⟩
          obtain ⟨pl, hpl⟩ : ∃ v, v = s.ps.length := ⟨_, rfl⟩
          rw [← hso, ← hr0, ← hr1, ← hr2, ← hr3] at HC hz1 HDK
          rw [← hpl] at HDK hkl'
          clear hcA hnA hk hlt hx hnn hin hs hov ha0 hgp hP hS he h11 hxi hcs hpc hbb hovs hka hz2 hso hr0 hr1 hr2 hr3 hpl hkl
          go_wp2_with fail
          refine (HC.out _ (Below.refl _ _)).mono ?_
          rintro e w1 ⟨rfl, hb⟩
          have HB1 := Lib.hid hb
          clear hb
          go_wp2_with fail
          refine (HNX.out _ (ext_alloc _ HB1.out)).mono ?_
          rintro e w2 ⟨rfl, hb2⟩
          obtain ⟨c0, c1, c2, c3, c4, c5, c6, c7⟩ := seven_cells ((hb2.block w1.heap.size (by simp)).trans (alNew rfl))
          have HB12 := Lib.hid (ext_trans (ext_alloc _ HB1.out) hb2)
          have HB2 := Lib.hid (ext_trans HW.out HB12.out)
          clear hb2 t0 t1 t2 l1 l2 l3 l4
          obtain ⟨t0, t1, t2⟩ := (H.out.ext HB2.out).tops
          obtain ⟨l1, l2, l3, l4⟩ := (H.out.ext HB2.out).lt
          rw [← HN2.out] at t2
          obtain ⟨y0, y1, y2, y3, y4, y5, y6, _⟩ := HDK.out _ HB12.out
          have HCB := Lib.hid (And.intro c0 (And.intro c1 (And.intro c2 (And.intro c3 (And.intro c4 (And.intro c5 (And.intro c6 c7)))))))
          go_wp2_with fail
          obtain ⟨W3, hW3⟩ : ∃ W, W = (w2.alloc (.cells #[.int .i64 xi.op, .int .i64 xi.a, .int .i64 xi.b, .int .i64 xi.c] 36)).alloc (.cells #[.slice (some ⟨bb, off, none⟩) pl c, .int .i64 r0, .int .i64 r1, .int .i64 r2, .int .i64 r3, .int .i64 ka, .int .i64 so] 126) := ⟨_, rfl⟩
          have hb23 : Below w2.heap.size w2 W3 := by rw [hW3]; exact ext_alloc _ (ext_alloc _ (Below.refl _ _))
          have hx3 : W3.heap[w2.heap.size]? = some (.cells #[.int .i64 xi.op, .int .i64 xi.a, .int .i64 xi.b, .int .i64 xi.c] 36 (0, 0)) := by rw [hW3]; exact alOld (alNew rfl)
          have hk3 : W3.heap[w2.heap.size + 1]? = some (.cells #[.slice (some ⟨bb, off, none⟩) pl c, .int .i64 r0, .int .i64 r1, .int .i64 r2, .int .i64 r3, .int .i64 ka, .int .i64 so] 126 (0, 0)) := by rw [hW3]; exact alNew (by simp)
          rw [← hW3]
          clear hW3 y0 y1 y2 y3 y4 y5 y6 t0 t1 t2 l1 l2 l3 l4 c0 c1 c2 c3 c4 c5 c6 c7
          have HB3 := Lib.hid (ext_trans HB12.out hb23)
          have HX3 := Lib.hid (And.intro hx3 hk3)
          have hcb := HCB.out
          have c0 := (hb23.cell (p := ⟨w1.heap.size, 0, none⟩) hcb.2.2.2.2.2.2.2).trans hcb.1
          have c1 := (hb23.cell (p := ⟨w1.heap.size, 1, none⟩) hcb.2.2.2.2.2.2.2).trans hcb.2.1
          have c2 := (hb23.cell (p := ⟨w1.heap.size, 2, none⟩) hcb.2.2.2.2.2.2.2).trans hcb.2.2.1
          have c3 := (hb23.cell (p := ⟨w1.heap.size, 3, none⟩) hcb.2.2.2.2.2.2.2).trans hcb.2.2.2.1
          have c4 := (hb23.cell (p := ⟨w1.heap.size, 4, none⟩) hcb.2.2.2.2.2.2.2).trans hcb.2.2.2.2.1
          have c5 := (hb23.cell (p := ⟨w1.heap.size, 5, none⟩) hcb.2.2.2.2.2.2.2).trans hcb.2.2.2.2.2.1
          have c6 := (hb23.cell (p := ⟨w1.heap.size, 6, none⟩) hcb.2.2.2.2.2.2.2).trans hcb.2.2.2.2.2.2.1
          have cl := Nat.lt_of_lt_of_le hcb.2.2.2.2.2.2.2 hb23.size
          obtain ⟨k0, k1, k2, k3, k4, k5, k6, kl⟩ := seven_cells hk3
          have hbw3 : Below wr.heap.size wr W3 := HB3.out
          clear hcb hb23 hx3 hk3
          refine region_past (by kernel_rfl) (by kernel_rfl) ?_; (repeat (go_big_quiet_step ((go_at_call 60; exact calls_past (HOV.out _ (by repeat (with_reducible first | exact Below.refl _ _ | assumption | (refine ext_next (by assumption) ?_) | apply ext_alloc | apply ext_past | apply ext_drew | apply ext_drewN))))))); refine wpQuiet_nil ?_; rintro _ ⟨pw, rfl⟩
          have HQH := Lib.hid (fun (V : World) (hb : Below W3.heap.size W3 V) => show V.cell? ⟨w2.heap.size, 0, none⟩ = some (.int .i64 xi.op) ∧ V.cell? ⟨w2.heap.size, 1, none⟩ = some (.int .i64 xi.a) ∧ V.cell? ⟨w2.heap.size, 2, none⟩ = some (.int .i64 xi.b) ∧ V.cell? ⟨w2.heap.size, 3, none⟩ = some (.int .i64 xi.c) ∧ V.cell? ⟨w2.heap.size + 1, 0, none⟩ = some (.slice (some ⟨bb, off, none⟩) pl c) ∧ V.cell? ⟨w2.heap.size + 1, 5, none⟩ = some (.int .i64 ka) ∧ V.cell? ⟨bb, off + ka * 4, none⟩ = some (.int .i64 xi.op) ∧ V.cell? ⟨bb, off + ka * 4 + 1, none⟩ = some (.int .i64 xi.a) ∧ V.cell? ⟨bb, off + ka * 4 + 2, none⟩ = some (.int .i64 xi.b) ∧ V.cell? ⟨bb, off + ka * 4 + 3, none⟩ = some (.int .i64 xi.c) from by
            have h1 := (hb.block _ (lt_of HX3.out.1)).trans HX3.out.1
            have h2 := (hb.block _ (lt_of HX3.out.2)).trans HX3.out.2
            have hw := ext_trans HB3.out hb
            obtain ⟨g0, g1, g2, g3, g4⟩ := HPC.out
            obtain ⟨z0, z1, z2, z3, _, _⟩ := four_cells h1
            obtain ⟨v0, _, _, _, _, v5, _, _⟩ := seven_cells h2
            exact ⟨z0, z1, z2, z3, v0, v5, (hw.cell (p := ⟨bb, off + ka * 4, none⟩) g0).trans g1, (hw.cell (p := ⟨bb, off + ka * 4 + 1, none⟩) g0).trans g2, (hw.cell (p := ⟨bb, off + ka * 4 + 2, none⟩) g0).trans g3, (hw.cell (p := ⟨bb, off + ka * 4 + 3, none⟩) g0).trans g4⟩)
          have hbp : Below W3.heap.size W3 pw.val := pw.below
          clear c0 c1 c2 c3 c4 c5 c6 cl k0 k1 k2 k3 k4 k5 k6 kl
          have HSM := Lib.hid (fun (V : World) (b1 b2 : Nat) (_hb : Below W3.heap.size W3 V) (h1 : V.heap[b1]? = some (.cells #[.int .i64 xi.op, .int .i64 xi.a, .int .i64 xi.b, .int .i64 xi.c] 36 (0, 0))) (h2 : V.heap[b2]? = some (.cells #[.int .i64 xi.op, .int .i64 xi.a, .int .i64 xi.b, .int .i64 xi.c] 130 (0, 0))) => same10_one xi (some ⟨b1, 0, none⟩) (some ⟨b2, 0, none⟩) 1 1 V (sln_one h1) (sln_one h2))
          have QQ := HQH.out pw.val hbp
          obtain ⟨q0, q1, q2, q3, q4, q5, q6, q7, q8, q9⟩ := QQ
          have zx : w2.heap.size + 1 < pw.val.heap.size := Nat.lt_of_lt_of_le (lt_of HX3.out.2) hbp.size
          have zb : bb < pw.val.heap.size := Nat.lt_of_lt_of_le HPC.out.1 (ext_trans HB3.out hbp).size
          go_upto_region 12 with (fail)
          go_cut [117] from 95 to 117 (fun s117 wd => s117 = .bool false ∧ Hid (Below pw.val.heap.size pw.val wd))
          case first =>
            exact same_reg12 (Lib.hid ((hbp.block _ (lt_of HX3.out.1)).trans HX3.out.1)) (Lib.hid ((hbp.block _ (lt_of HX3.out.2)).trans HX3.out.2)) (Lib.hid ⟨zb, q6, q7, q8, q9⟩) hkl' hk32 (by assumption) (by assumption)
          case rest =>
            obtain ⟨rfl, HB5⟩ := hcut
            have HB6 := Lib.hid (ext_trans HW.out (ext_trans HB3.out (ext_trans hbp HB5.out)))
            obtain ⟨t0, t1, t2⟩ := (H.out.ext HB6.out).tops
            obtain ⟨l1, l2, l3, l4⟩ := (H.out.ext HB6.out).lt
            go_wp2_with fail
            go_roundg (M.nc + 2 - (k + 1))
            case measure => have := HKLT.out; omega
            case rel => exact ⟨k + 1, by rw [show (j : Int) + 1 = ((k + 1 : Nat) : Int) - 1 by have := HX.out; omega], by have := HKLT.out; omega, Lib.hid HB6.out⟩
        · have hnA : M.nextA j = (Ins.none, false) := by
            unfold Ma.nextA
            rw [if_neg (by omega), Int.toNat_natCast, ← hs, hovs]
            rfl
          rw [hnA] at HNX
          rw [hovs] at HOV hz1 HC
          have HNX := Lib.hid (show ∀ W, Below wr.heap.size wr W → Calls Tryd.prog 43 #[.pointer (some ⟨p, 0, none⟩), .int .i64 j] W fun e w' => e = .returned (.tuple #[.agg #[.int .i64 0, .int .i64 0, .int .i64 0, .int .i64 0], .bool false]) ∧ Below W.heap.size W w' from HNX.out)
          obtain ⟨so, hso⟩ : ∃ v, v = s.wo := ⟨_, rfl⟩
          obtain ⟨sa, hsa⟩ : ∃ v, v = s.a := ⟨_, rfl⟩
          obtain ⟨r0, hr0⟩ : ∃ v, v = s.r 0 := ⟨_, rfl⟩
          obtain ⟨r1, hr1⟩ : ∃ v, v = s.r 1 := ⟨_, rfl⟩
          obtain ⟨r2, hr2⟩ : ∃ v, v = s.r 2 := ⟨_, rfl⟩
          obtain ⟨r3, hr3⟩ : ∃ v, v = s.r 3 := ⟨_, rfl⟩
          obtain ⟨pl, hpl⟩ : ∃ v, v = s.ps.length := ⟨_, rfl⟩
          rw [← hso, ← hsa, ← hr0, ← hr1, ← hr2, ← hr3] at HC hz1 HDK
          rw [← hpl] at HDK
          clear hcA hnA hk hlt hx hnn hin hs hov ha0 hgp hP hS hovs hso hsa hr0 hr1 hr2 hr3 hpl
          go_wp2_with fail
          refine (HC.out _ (Below.refl _ _)).mono ?_
          rintro e w1 ⟨rfl, hb⟩
          have HB1 := Lib.hid hb
          clear hb
          go_wp2_with fail
          refine (HNX.out _ (ext_alloc _ HB1.out)).mono ?_
          rintro e w2 ⟨rfl, hb2⟩
          obtain ⟨c0, c1, c2, c3, c4, c5, c6, c7⟩ := seven_cells ((hb2.block w1.heap.size (by simp)).trans (alNew rfl))
          have HB12 := Lib.hid (ext_trans (ext_alloc _ HB1.out) hb2)
          have HB2 := Lib.hid (ext_trans HW.out HB12.out)
          clear hb2 t0 t1 t2 l1 l2 l3 l4
          obtain ⟨t0, t1, t2⟩ := (H.out.ext HB2.out).tops
          obtain ⟨l1, l2, l3, l4⟩ := (H.out.ext HB2.out).lt
          rw [← HN2.out] at t2
          obtain ⟨y0, y1, y2, y3, y4, y5, y6, _⟩ := HDK.out _ HB12.out
          have HCB := Lib.hid (And.intro c0 (And.intro c1 (And.intro c2 (And.intro c3 (And.intro c4 (And.intro c5 (And.intro c6 c7)))))))
          go_wp2_with fail
          obtain ⟨W3, hW3⟩ : ∃ W, W = (w2.alloc (.cells #[.int .i64 0, .int .i64 0, .int .i64 0, .int .i64 0] 36)).alloc (.cells #[.slice A pl c, .int .i64 r0, .int .i64 r1, .int .i64 r2, .int .i64 r3, .int .i64 sa, .int .i64 so] 126) := ⟨_, rfl⟩
          have hb23 : Below w2.heap.size w2 W3 := by rw [hW3]; exact ext_alloc _ (ext_alloc _ (Below.refl _ _))
          have hx3 : W3.heap[w2.heap.size]? = some (.cells #[.int .i64 0, .int .i64 0, .int .i64 0, .int .i64 0] 36 (0, 0)) := by rw [hW3]; exact alOld (alNew rfl)
          have hk3 : W3.heap[w2.heap.size + 1]? = some (.cells #[.slice A pl c, .int .i64 r0, .int .i64 r1, .int .i64 r2, .int .i64 r3, .int .i64 sa, .int .i64 so] 126 (0, 0)) := by rw [hW3]; exact alNew (by simp)
          rw [← hW3]
          clear hW3 y0 y1 y2 y3 y4 y5 y6 t0 t1 t2 l1 l2 l3 l4 c0 c1 c2 c3 c4 c5 c6 c7
          have HB3 := Lib.hid (ext_trans HB12.out hb23)
          have HX3 := Lib.hid (And.intro hx3 hk3)
          have hcb := HCB.out
          have c0 := (hb23.cell (p := ⟨w1.heap.size, 0, none⟩) hcb.2.2.2.2.2.2.2).trans hcb.1
          have c1 := (hb23.cell (p := ⟨w1.heap.size, 1, none⟩) hcb.2.2.2.2.2.2.2).trans hcb.2.1
          have c2 := (hb23.cell (p := ⟨w1.heap.size, 2, none⟩) hcb.2.2.2.2.2.2.2).trans hcb.2.2.1
          have c3 := (hb23.cell (p := ⟨w1.heap.size, 3, none⟩) hcb.2.2.2.2.2.2.2).trans hcb.2.2.2.1
          have c4 := (hb23.cell (p := ⟨w1.heap.size, 4, none⟩) hcb.2.2.2.2.2.2.2).trans hcb.2.2.2.2.1
          have c5 := (hb23.cell (p := ⟨w1.heap.size, 5, none⟩) hcb.2.2.2.2.2.2.2).trans hcb.2.2.2.2.2.1
          have c6 := (hb23.cell (p := ⟨w1.heap.size, 6, none⟩) hcb.2.2.2.2.2.2.2).trans hcb.2.2.2.2.2.2.1
          have cl := Nat.lt_of_lt_of_le hcb.2.2.2.2.2.2.2 hb23.size
          obtain ⟨k0, k1, k2, k3, k4, k5, k6, kl⟩ := seven_cells hk3
          have hbw3 : Below wr.heap.size wr W3 := HB3.out
          clear hcb hb23 hx3 hk3
          refine region_past (by kernel_rfl) (by kernel_rfl) ?_; (repeat (go_big_quiet_step ((go_at_call 60; exact calls_past (HOV.out _ (by repeat (with_reducible first | exact Below.refl _ _ | assumption | (refine ext_next (by assumption) ?_) | apply ext_alloc | apply ext_past | apply ext_drew | apply ext_drewN))))))); refine wpQuiet_nil ?_; rintro _ ⟨pw, rfl⟩
          have hbp : Below W3.heap.size W3 pw.val := pw.below
          obtain ⟨z0, z1, z2, z3, _, _⟩ := four_cells ((hbp.block _ (lt_of HX3.out.1)).trans HX3.out.1)
          have zx : w2.heap.size < pw.val.heap.size := Nat.lt_of_lt_of_le (lt_of HX3.out.1) hbp.size
          clear c0 c1 c2 c3 c4 c5 c6 cl k0 k1 k2 k3 k4 k5 k6 kl
          go_wp2_with fail
          refine region_past (by kernel_rfl) (by kernel_rfl) ?_; (repeat (go_big_quiet_step (fail))); refine wpQuiet_nil ?_; rintro _ ⟨pw2, rfl⟩
          have HB6 := Lib.hid (ext_trans HW.out (ext_trans HB3.out (ext_trans hbp pw2.below)))
          obtain ⟨t0, t1, t2⟩ := (H.out.ext HB6.out).tops
          obtain ⟨l1, l2, l3, l4⟩ := (H.out.ext HB6.out).lt
          go_wp2_with fail
          go_roundg (M.nc + 2 - (k + 1))
          case measure => have := HKLT.out; omega
          case rel => exact ⟨k + 1, by rw [show (j : Int) + 1 = ((k + 1 : Nat) : Int) - 1 by have := HX.out; omega], by have := HKLT.out; omega, Lib.hid HB6.out⟩
    · have e1 : decide (x ≤ (M.nc : Int)) = false := by simp; omega
      clear hk hlt hx hnn hxb1 hxb2 HX
      go_wp2_with fail
      go_loopg [11] (M.ng + 2) (fun g s11 wr => ∃ k : Nat, s11 = .int .i64 ((k : Int) - 1) ∧ k + g = M.ng + 2 ∧ Hid (Below w.heap.size w wr))
      case atStart => exact ⟨0, rfl, by omega, HW⟩
      case round =>
        obtain ⟨k, rfl, hk, HW⟩ := hrel
        obtain ⟨x, hx⟩ : ∃ x : Int, x = (k : Int) - 1 := ⟨_, rfl⟩
        rw [← hx]
        have HX := Lib.hid hx
        have hnn := HN4.out
        have hn2 := HN2.out
        have hN64 : (M.ng : Int) ≤ 64 := by omega
        have hxb : (-1 : Int) ≤ x ∧ x ≤ 65 := by omega
        obtain ⟨hxb1, hxb2⟩ := hxb
        obtain ⟨t0, t1, t2⟩ := (H.out.ext HW.out).tops
        obtain ⟨l1, l2, l3, l4⟩ := (H.out.ext HW.out).lt
        rw [← HN2.out] at t2
        have HC := Lib.hid (fun (W : World) (hb : Below wr.heap.size wr W) => aown_all (HM.out.ext (ext_trans HW.out hb)) x)
        by_cases hlt : k ≤ M.ng + 1
        · have e1 : decide (x ≤ (M.ng : Int)) = true := by simp; omega
          have HKLT := Lib.hid (And.intro hk hlt)
          by_cases hin : x < 0 ∨ x = M.ng
          · have hcA : Ma.ownA M x = (0, 10) := by unfold Ma.ownA; rw [if_pos (by omega)]
            rw [hcA] at HC
            clear hcA hk hlt hx hnn hn2
            by_cases h0 : x < 0
            · have e2 : decide (x < 0) = true := by simpa using h0
              clear hin h0
              go_wp2_with fail
              refine (HC.out _ (Below.refl _ _)).mono ?_
              rintro e w1 ⟨rfl, hb⟩
              have HB2 := Lib.hid (ext_trans HW.out hb)
              clear hb t0 t1 t2 l1 l2 l3 l4
              obtain ⟨t0, t1, t2⟩ := (H.out.ext HB2.out).tops
              obtain ⟨l1, l2, l3, l4⟩ := (H.out.ext HB2.out).lt
              rw [← HN2.out] at t2
              go_wp2_with fail
              go_roundg (M.ng + 2 - (k + 1))
              case measure => have := HKLT.out; omega
              case rel => exact ⟨k + 1, by rw [show x + 1 = ((k + 1 : Nat) : Int) - 1 by have := HX.out; omega], by have := HKLT.out; omega, HB2⟩
            · have e2 : decide (x < 0) = false := by simpa using h0
              have e3 : (x == (M.ng : Int)) = true := by simp; omega
              clear hin h0
              go_wp2_with fail
              refine (HC.out _ (Below.refl _ _)).mono ?_
              rintro e w1 ⟨rfl, hb⟩
              have HB2 := Lib.hid (ext_trans HW.out hb)
              clear hb t0 t1 t2 l1 l2 l3 l4
              obtain ⟨t0, t1, t2⟩ := (H.out.ext HB2.out).tops
              obtain ⟨l1, l2, l3, l4⟩ := (H.out.ext HB2.out).lt
              rw [← HN2.out] at t2
              go_wp2_with fail
              go_roundg (M.ng + 2 - (k + 1))
              case measure => have := HKLT.out; omega
              case rel => exact ⟨k + 1, by rw [show x + 1 = ((k + 1 : Nat) : Int) - 1 by have := HX.out; omega], by have := HKLT.out; omega, HB2⟩
          · obtain ⟨j, rfl⟩ : ∃ j : Nat, x = j := ⟨x.toNat, by omega⟩
            have hjl : j < M.ng := by omega
            have e2 : decide ((j : Int) < 0) = false := by simp
            have e3 : ((j : Int) == (M.ng : Int)) = false := by simp; omega
            have e3' : (j == M.ng) = false := by simp; omega
            have e1' : decide (j ≤ M.ng) = true := by simp; omega
            have hcA : Ma.ownA M j = (M.ow j, 0) := by unfold Ma.ownA; rw [if_neg (by omega), Int.toNat_natCast]
            rw [hcA] at HC
            have hxl : (j : Int) < (M.ng : Int) := by omega
            have HCE := Lib.hid (fun (W : World) (hb : Below w.heap.size w W) => (H.out.ext hb).own j hjl)
            obtain ⟨v, hv⟩ : ∃ v, v = M.ow j := ⟨_, rfl⟩
            rw [← hv] at HC HCE
            clear hcA hk hlt hx hnn hn2 hin hv hjl
            go_wp2_with fail
            refine (HC.out _ (Below.refl _ _)).mono ?_
            rintro e w1 ⟨rfl, hb⟩
            have HB2 := Lib.hid (ext_trans HW.out hb)
            clear hb t0 t1 t2 l1 l2 l3 l4
            obtain ⟨t0, t1, t2⟩ := (H.out.ext HB2.out).tops
            obtain ⟨l1, l2, l3, l4⟩ := (H.out.ext HB2.out).lt
            rw [← HN2.out] at t2
            have y0 := (HCE.out _ HB2.out).1
            go_wp2_with fail
            go_roundg (M.ng + 2 - (k + 1))
            case measure => have := HKLT.out; omega
            case rel => exact ⟨k + 1, by rw [show (j : Int) + 1 = ((k + 1 : Nat) : Int) - 1 by have := HX.out; omega], by have := HKLT.out; omega, HB2⟩
        · have e1 : decide (x ≤ (M.ng : Int)) = false := by simp; omega
          clear hk hlt hx hnn hn2 hxb1 hxb2 HX HC
          go_wp2_with fail
          go_loopg [14] (N2 + 2) (fun g s14 wr => ∃ k : Nat, s14 = .int .i64 ((k : Int) - 1) ∧ k + g = N2 + 2 ∧ Hid (Below w.heap.size w wr))
          case atStart => exact ⟨0, rfl, by omega, HW⟩
          case round =>
            obtain ⟨k, rfl, hk, HW⟩ := hrel
            obtain ⟨x, hx⟩ : ∃ x : Int, x = (k : Int) - 1 := ⟨_, rfl⟩
            rw [← hx]
            have HX := Lib.hid hx
            have hnn := HN4.out
            have hn2 := HN2.out
            have hN64 : (N2 : Int) ≤ 64 := by omega
            have hxb : (-1 : Int) ≤ x ∧ x ≤ 65 := by omega
            obtain ⟨hxb1, hxb2⟩ := hxb
            obtain ⟨t0, t1, t2⟩ := (H.out.ext HW.out).tops
            obtain ⟨l1, l2, l3, l4⟩ := (H.out.ext HW.out).lt
            rw [← HN2.out] at t2
            have HC := Lib.hid (fun (W : World) (hb : Below wr.heap.size wr W) => aget_all (HM.out.ext (ext_trans HW.out hb)) (HL.out.ext (ext_trans HW.out hb)) x)
            by_cases hlt : k ≤ N2 + 1
            · have e1 : decide (x ≤ (N2 : Int)) = true := by simp; omega
              have HKLT := Lib.hid (And.intro hk hlt)
              by_cases hin : x < 0 ∨ x = N2
              · have hcA : Ma.getA M x = (0, 10) := by unfold Ma.getA; rw [if_pos (by omega)]
                rw [hcA] at HC
                clear hcA hk hlt hx hnn hn2
                by_cases h0 : x < 0
                · have e2 : decide (x < 0) = true := by simpa using h0
                  clear hin h0
                  go_wp2_with fail
                  refine (HC.out _ (Below.refl _ _)).mono ?_
                  rintro e w1 ⟨rfl, hb⟩
                  have HB2 := Lib.hid (ext_trans HW.out hb)
                  clear hb t0 t1 t2 l1 l2 l3 l4
                  obtain ⟨t0, t1, t2⟩ := (H.out.ext HB2.out).tops
                  obtain ⟨l1, l2, l3, l4⟩ := (H.out.ext HB2.out).lt
                  rw [← HN2.out] at t2
                  go_wp2_with fail
                  go_roundg (N2 + 2 - (k + 1))
                  case measure => have := HKLT.out; omega
                  case rel => exact ⟨k + 1, by rw [show x + 1 = ((k + 1 : Nat) : Int) - 1 by have := HX.out; omega], by have := HKLT.out; omega, HB2⟩
                · have e2 : decide (x < 0) = false := by simpa using h0
                  have e3 : (x == (N2 : Int)) = true := by simp; omega
                  clear hin h0
                  go_wp2_with fail
                  refine (HC.out _ (Below.refl _ _)).mono ?_
                  rintro e w1 ⟨rfl, hb⟩
                  have HB2 := Lib.hid (ext_trans HW.out hb)
                  clear hb t0 t1 t2 l1 l2 l3 l4
                  obtain ⟨t0, t1, t2⟩ := (H.out.ext HB2.out).tops
                  obtain ⟨l1, l2, l3, l4⟩ := (H.out.ext HB2.out).lt
                  rw [← HN2.out] at t2
                  go_wp2_with fail
                  go_roundg (N2 + 2 - (k + 1))
                  case measure => have := HKLT.out; omega
                  case rel => exact ⟨k + 1, by rw [show x + 1 = ((k + 1 : Nat) : Int) - 1 by have := HX.out; omega], by have := HKLT.out; omega, HB2⟩
              · obtain ⟨j, rfl⟩ : ∃ j : Nat, x = j := ⟨x.toNat, by omega⟩
                have hjl : j < N2 := by omega
                have e2 : decide ((j : Int) < 0) = false := by simp
                have e3 : ((j : Int) == (N2 : Int)) = false := by simp; omega
                have e3' : (j == N2) = false := by simp; omega
                have e1' : decide (j ≤ N2) = true := by simp; omega
                have hcA : Ma.getA M j = (M.m.wd j, 0) := by unfold Ma.getA; rw [if_neg (by omega), Int.toNat_natCast]
                rw [hcA] at HC
                have hxl : (j : Int) < (N2 : Int) := by omega
                have HCE := Lib.hid (fun (W : World) (hb : Below w.heap.size w W) => (H.out.ext hb).word j (by omega))
                obtain ⟨v, hv⟩ : ∃ v, v = M.m.wd j := ⟨_, rfl⟩
                rw [← hv] at HC HCE
                clear hcA hk hlt hx hnn hn2 hin hv hjl
                go_wp2_with fail
                refine (HC.out _ (Below.refl _ _)).mono ?_
                rintro e w1 ⟨rfl, hb⟩
                have HB2 := Lib.hid (ext_trans HW.out hb)
                clear hb t0 t1 t2 l1 l2 l3 l4
                obtain ⟨t0, t1, t2⟩ := (H.out.ext HB2.out).tops
                obtain ⟨l1, l2, l3, l4⟩ := (H.out.ext HB2.out).lt
                rw [← HN2.out] at t2
                have y0 := (HCE.out _ HB2.out).1
                go_wp2_with fail
                go_roundg (N2 + 2 - (k + 1))
                case measure => have := HKLT.out; omega
                case rel => exact ⟨k + 1, by rw [show (j : Int) + 1 = ((k + 1 : Nat) : Int) - 1 by have := HX.out; omega], by have := HKLT.out; omega, HB2⟩
            · have e1 : decide (x ≤ (N2 : Int)) = false := by simp; omega
              clear hk hlt hx hnn hn2 hxb1 hxb2 HX HC
              go_wp2_with fail
              go_ret
              exact ⟨rfl, HW.out⟩
end
end Go.Proofs.YtkobeajbiendlaaDoor
