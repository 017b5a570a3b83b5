/- What this text holds: the law AtomKeeps, walked. Conditions: the tables of limits and of ops hold what their initialisers lay. -/
import Derived.Test.YtkobeajbiendlaaDoorL11E
namespace Go.Proofs.YtkobeajbiendlaaDoor
open Go.RowKit
section
variable (c : Cfg) (A B C D E : Option Addr) (l : List Pr) (ws os ds : List Int) (c1 c2 c3 c4 c5 : Nat) (tl : List (Int × Bool)) (w : World)
set_option maxRecDepth 100000 in
set_option maxHeartbeats 8000000 in
theorem kp_few (hL : Lims w) (hO : Ops w) (hA : SlR w A l) (hm : l.length ≤ maxLen) (hB : SlI w B ws) (hC : SlI w C os) (hD : SlI w D ds) (hE : SlT w E tl) (hfw : fewB l ws os ds = false) :
    Calls Tryd.prog 10 #[.agg #[.int .i64 c.co, .int .i64 c.gr, .int .i64 c.se, .int .i64 c.wa, .int .i64 c.de, .int .i64 c.en, .int .i64 c.ba, .slice A l.length c1, .slice B ws.length c2, .slice C os.length c3, .slice D ds.length c4], .slice E tl.length c5] w fun e w' => e = .returned (.bool true) ∧ Below w.heap.size w w' := by
  have HN := Lib.hid (Wb.new c A B C D l ws os ds c1 c2 c3 c4 w)
  have HFW := fun (W : World) (hb : Below w.heap.size w W) => few_any c A B C D l ws os ds c1 c2 c3 c4 W (hA.ext hb) hm
  have HWR := fun (W : World) (hb : Below w.heap.size w W) hf => wrong_any c A B C D l ws os ds c1 c2 c3 c4 W (hA.ext hb) (hB.ext hb) (hC.ext hb) hf
  have HMD := Lib.hid (fun (W : World) (hb : Below w.heap.size w W) => amade c A B C D l ws os ds c1 c2 c3 c4 W (hL.ext hb) (hO.ext hb) (hA.ext hb) (hB.ext hb) (hC.ext hb) (hD.ext hb))
  have HAW := Lib.hid (fun (W : World) (hb : Below w.heap.size w W) => awake11 W (hL.ext hb) (hO.ext hb))
  have HL := Lib.hid hL
  have HE := Lib.hid hE
  clear hL hO hA hm hB hC hD hE
  rw [hfw] at HFW
  have HFW := Lib.hid HFW
  clear hfw HWR HMD
  go_enter Tryd.func10, Tryd.ntmps10
  obtain ⟨t0, t1, t2, t3, t4, t5, t6, t7, t8, t9, t10⟩ := eleven_at HN.out.box
  go_wp2_with fail
  refine (HFW.out _ HN.out.be).mono ?_
  rintro e w1 ⟨rfl, hb⟩
  have HN1 := Lib.hid (HN.out.ext hb)
  clear hb
  go_wp2_with fail
  refine (HAW.out _ HN1.out.be).mono ?_
  rintro e w2 ⟨rfl, hb⟩
  have HB2 := Lib.hid (ext_trans HN1.out.be hb)
  clear hb
  go_wp2_with fail
  go_ret
  exact ⟨rfl, HB2.out⟩
set_option maxRecDepth 100000 in
set_option maxHeartbeats 8000000 in
theorem kp_many (hL : Lims w) (hO : Ops w) (hA : SlR w A l) (hm : l.length ≤ maxLen) (hB : SlI w B ws) (hC : SlI w C os) (hD : SlI w D ds) (hE : SlT w E tl) (hfw : fewB l ws os ds = true) (hn : 60 < tl.length) :
    Calls Tryd.prog 10 #[.agg #[.int .i64 c.co, .int .i64 c.gr, .int .i64 c.se, .int .i64 c.wa, .int .i64 c.de, .int .i64 c.en, .int .i64 c.ba, .slice A l.length c1, .slice B ws.length c2, .slice C os.length c3, .slice D ds.length c4], .slice E tl.length c5] w fun e w' => e = .returned (.bool true) ∧ Below w.heap.size w w' := by
  have HN := Lib.hid (Wb.new c A B C D l ws os ds c1 c2 c3 c4 w)
  have HFW := fun (W : World) (hb : Below w.heap.size w W) => few_any c A B C D l ws os ds c1 c2 c3 c4 W (hA.ext hb) hm
  have HWR := fun (W : World) (hb : Below w.heap.size w W) hf => wrong_any c A B C D l ws os ds c1 c2 c3 c4 W (hA.ext hb) (hB.ext hb) (hC.ext hb) hf
  have HMD := Lib.hid (fun (W : World) (hb : Below w.heap.size w W) => amade c A B C D l ws os ds c1 c2 c3 c4 W (hL.ext hb) (hO.ext hb) (hA.ext hb) (hB.ext hb) (hC.ext hb) (hD.ext hb))
  have HAW := Lib.hid (fun (W : World) (hb : Below w.heap.size w W) => awake11 W (hL.ext hb) (hO.ext hb))
  have HL := Lib.hid hL
  have HE := Lib.hid hE
  clear hL hO hA hm hB hC hD hE
  rw [hfw] at HFW
  have HFW := Lib.hid HFW
  have HWR := Lib.hid (fun (W : World) (hb : Below w.heap.size w W) => HWR W hb (fewB_len hfw).2.2.2.2)
  clear hfw
  have en : decide ((tl.length : Int) > 60) = true := by simp; omega
  clear hn
  go_enter Tryd.func10, Tryd.ntmps10
  obtain ⟨t0, t1, t2, t3, t4, t5, t6, t7, t8, t9, t10⟩ := eleven_at HN.out.box
  go_wp2_with fail
  refine (HFW.out _ HN.out.be).mono ?_
  rintro e w1 ⟨rfl, hb⟩
  have HN1 := Lib.hid (HN.out.ext hb)
  clear hb
  go_wp2_with fail
  refine (HAW.out _ HN1.out.be).mono ?_
  rintro e w2 ⟨rfl, hb⟩
  have HB2 := Lib.hid (ext_trans HN1.out.be hb)
  clear hb
  go_wp2_with fail
  go_ret
  exact ⟨rfl, HB2.out⟩
set_option maxRecDepth 100000 in
set_option maxHeartbeats 8000000 in
theorem kp_wrong (hL : Lims w) (hO : Ops w) (hA : SlR w A l) (hm : l.length ≤ maxLen) (hB : SlI w B ws) (hC : SlI w C os) (hD : SlI w D ds) (hE : SlT w E tl) (hfw : fewB l ws os ds = true) (hn : ¬ 60 < tl.length) (hw : newE11 c l ws os ds ≠ 0) :
    Calls Tryd.prog 10 #[.agg #[.int .i64 c.co, .int .i64 c.gr, .int .i64 c.se, .int .i64 c.wa, .int .i64 c.de, .int .i64 c.en, .int .i64 c.ba, .slice A l.length c1, .slice B ws.length c2, .slice C os.length c3, .slice D ds.length c4], .slice E tl.length c5] w fun e w' => e = .returned (.bool true) ∧ Below w.heap.size w w' := by
  have HN := Lib.hid (Wb.new c A B C D l ws os ds c1 c2 c3 c4 w)
  have HFW := fun (W : World) (hb : Below w.heap.size w W) => few_any c A B C D l ws os ds c1 c2 c3 c4 W (hA.ext hb) hm
  have HWR := fun (W : World) (hb : Below w.heap.size w W) hf => wrong_any c A B C D l ws os ds c1 c2 c3 c4 W (hA.ext hb) (hB.ext hb) (hC.ext hb) hf
  have HMD := Lib.hid (fun (W : World) (hb : Below w.heap.size w W) => amade c A B C D l ws os ds c1 c2 c3 c4 W (hL.ext hb) (hO.ext hb) (hA.ext hb) (hB.ext hb) (hC.ext hb) (hD.ext hb))
  have HAW := Lib.hid (fun (W : World) (hb : Below w.heap.size w W) => awake11 W (hL.ext hb) (hO.ext hb))
  have HL := Lib.hid hL
  have HE := Lib.hid hE
  clear hL hO hA hm hB hC hD hE
  rw [hfw] at HFW
  have HFW := Lib.hid HFW
  have HWR := Lib.hid (fun (W : World) (hb : Below w.heap.size w W) => HWR W hb (fewB_len hfw).2.2.2.2)
  clear hfw
  have en : decide ((tl.length : Int) > 60) = false := by simp; omega
  have H60 := Lib.hid (show tl.length ≤ 60 by omega)
  clear hn
  have ew : (newE11 c l ws os ds != 0) = true := by simpa using hw
  clear hw HMD
  generalize newE11 c l ws os ds = nw at *
  go_enter Tryd.func10, Tryd.ntmps10
  obtain ⟨t0, t1, t2, t3, t4, t5, t6, t7, t8, t9, t10⟩ := eleven_at HN.out.box
  go_wp2_with fail
  refine (HFW.out _ HN.out.be).mono ?_
  rintro e w1 ⟨rfl, hb⟩
  have HN1 := Lib.hid (HN.out.ext hb)
  clear hb t0 t1 t2 t3 t4 t5 t6 t7 t8 t9 t10
  obtain ⟨t0, t1, t2, t3, t4, t5, t6, t7, t8, t9, t10⟩ := eleven_at HN1.out.box
  have hl1 := lt_of HN1.out.box
  go_wp2_with fail
  refine (HWR.out _ HN1.out.be).mono ?_
  rintro e w2 ⟨rfl, hb⟩
  have HN2 := Lib.hid (HN1.out.ext hb)
  clear hb t0 t1 t2 t3 t4 t5 t6 t7 t8 t9 t10 hl1
  go_wp2_with fail
  refine (HAW.out _ HN2.out.be).mono ?_
  rintro e w3 ⟨rfl, hb⟩
  have HB2 := Lib.hid (ext_trans HN2.out.be hb)
  clear hb
  go_wp2_with fail
  go_ret
  exact ⟨rfl, HB2.out⟩
set_option maxRecDepth 100000 in
set_option maxHeartbeats 8000000 in
theorem kp_main (hL : Lims w) (hO : Ops w) (hA : SlR w A l) (hm : l.length ≤ maxLen) (hB : SlI w B ws) (hC : SlI w C os) (hD : SlI w D ds) (hE : SlT w E tl) (hfw : fewB l ws os ds = true) (hn : ¬ 60 < tl.length) (hw : newE11 c l ws os ds = 0) :
    Calls Tryd.prog 10 #[.agg #[.int .i64 c.co, .int .i64 c.gr, .int .i64 c.se, .int .i64 c.wa, .int .i64 c.de, .int .i64 c.en, .int .i64 c.ba, .slice A l.length c1, .slice B ws.length c2, .slice C os.length c3, .slice D ds.length c4], .slice E tl.length c5] w fun e w' => e = .returned (.bool true) ∧ Below w.heap.size w w' := by
  have HN := Lib.hid (Wb.new c A B C D l ws os ds c1 c2 c3 c4 w)
  have HFW := fun (W : World) (hb : Below w.heap.size w W) => few_any c A B C D l ws os ds c1 c2 c3 c4 W (hA.ext hb) hm
  have HWR := fun (W : World) (hb : Below w.heap.size w W) hf => wrong_any c A B C D l ws os ds c1 c2 c3 c4 W (hA.ext hb) (hB.ext hb) (hC.ext hb) hf
  have HMD := Lib.hid (fun (W : World) (hb : Below w.heap.size w W) => amade c A B C D l ws os ds c1 c2 c3 c4 W (hL.ext hb) (hO.ext hb) (hA.ext hb) (hB.ext hb) (hC.ext hb) (hD.ext hb))
  have HAW := Lib.hid (fun (W : World) (hb : Below w.heap.size w W) => awake11 W (hL.ext hb) (hO.ext hb))
  have HL := Lib.hid hL
  have HE := Lib.hid hE
  clear hL hO hA hm hB hC hD hE
  rw [hfw] at HFW
  have HFW := Lib.hid HFW
  have HWR := Lib.hid (fun (W : World) (hb : Below w.heap.size w W) => HWR W hb (fewB_len hfw).2.2.2.2)
  clear hfw
  have en : decide ((tl.length : Int) > 60) = false := by simp; omega
  have H60 := Lib.hid (show tl.length ≤ 60 by omega)
  clear hn
  have HWR := HWR.out
  rw [hw] at HWR
  have HWR := Lib.hid HWR
  have HW := Lib.hid hw
  clear hw
  go_enter Tryd.func10, Tryd.ntmps10
  obtain ⟨t0, t1, t2, t3, t4, t5, t6, t7, t8, t9, t10⟩ := eleven_at HN.out.box
  go_wp2_with fail
  refine (HFW.out _ HN.out.be).mono ?_
  rintro e w1 ⟨rfl, hb⟩
  have HN1 := Lib.hid (HN.out.ext hb)
  clear hb t0 t1 t2 t3 t4 t5 t6 t7 t8 t9 t10
  obtain ⟨t0, t1, t2, t3, t4, t5, t6, t7, t8, t9, t10⟩ := eleven_at HN1.out.box
  have hl1 := lt_of HN1.out.box
  go_wp2_with fail
  refine (HWR.out _ HN1.out.be).mono ?_
  rintro e w2 ⟨rfl, hb⟩
  have HN2 := Lib.hid (HN1.out.ext hb)
  clear hb t0 t1 t2 t3 t4 t5 t6 t7 t8 t9 t10 hl1
  obtain ⟨t0, t1, t2, t3, t4, t5, t6, t7, t8, t9, t10⟩ := eleven_at HN2.out.box
  have hl1 := lt_of HN2.out.box
  go_wp2_with fail
  refine (HMD.out _ HN2.out.be).mono ?_
  rintro e w3 ⟨⟨h0, p, lo, hi, rfl, hM, hlo⟩ | ⟨h0, _⟩, hb⟩
  case inr => exact absurd HW.out h0
  have HP := Lib.hid (show Lw w w3 lo hi p (maNew c l ws os ds l.length) c A B C D l ws os ds c1 c2 c3 c4 from ⟨HN2.out.ext hb, hM, Ma.Good.new h0, rfl, Nat.lt_of_lt_of_le hl1 hlo⟩)
  clear h0 hM hlo hb t0 t1 t2 t3 t4 t5 t6 t7 t8 t9 t10 hl1 HMD HWR HFW HN HN1 HN2
  generalize maNew c l ws os ds l.length = M0 at *
  go_wp2_with fail
  go_loopg [7] tl.length (fun g s7 wr => ∃ (k : Nat) (M : Ma), s7 = .int .i64 k ∧ k + g = tl.length ∧ Hid (Lw w wr lo hi p M c A B C D l ws os ds c1 c2 c3 c4))
  case atStart => exact ⟨0, M0, rfl, by omega, HP⟩
  case round =>
    obtain ⟨k, M, rfl, hk, HR⟩ := hrel
    by_cases hlt : k < tl.length
    · have ek : decide ((k : Int) < (tl.length : Int)) = true := by simp; omega
      have ek2 : decide (k < tl.length) = true := by simpa using hlt
      have HLT := Lib.hid (And.intro hk hlt)
      clear hk hlt
      go_wp2_with fail
      refine (acopy_all HR.out.mc HR.out.gd).mono ?_
      rintro e w4 ⟨p2, rfl, hM2, hb⟩
      have HR4 := Lib.hid (HR.out.ext hb)
      have HM2 := Lib.hid hM2
      have HI1 := Lib.hid (show hi ≤ wr.heap.size from HR.out.mc.sz.1)
      obtain ⟨b, off, hEE, hbl, hcs⟩ := (HE.out (by have := HLT.out; omega))
      have y0 := (HR4.out.wb.be.cell (p := ⟨b, off + k * 2, none⟩) hbl).trans (hcs k HLT.out.2).1
      have y1 := (HR4.out.wb.be.cell (p := ⟨b, off + k * 2 + 1, none⟩) hbl).trans (hcs k HLT.out.2).2
      have hkl : (k : Int) < (tl.length : Int) := by have := HLT.out; omega
      have hk60 : (k : Int) ≤ 60 := by have := H60.out; have := HLT.out; omega
      have hST := fun (W : World) (hb : Below w4.heap.size w4 W) => astep_all (HR4.out.mc.ext hb) HR4.out.gd (HL.out.ext (ext_trans HR4.out.wb.be hb)) (atT tl k).1 (atT tl k).2
      obtain ⟨eco, ea, eop, ewo, ewd, eva, ecd, f, M1, q1, hK1, hK2, hK3⟩ := keeps_ev M HR4.out.gd (atT tl k).1 (atT tl k).2
      have HG1 := HR4.out.gd.stepA (atT tl k).1 (atT tl k).2
      have HC1 := stepA_c M (atT tl k).1 (atT tl k).2
      rw [q1] at hST HG1 HC1
      have HST := Lib.hid hST
      have HG1 := Lib.hid HG1
      have HC1 := Lib.hid HC1
      have HK1 := Lib.hid hK1
      have HK2 := Lib.hid hK2
      have HK3 := Lib.hid hK3
      clear hM2 hb hcs q1 hST hK1 hK2 hK3 HR
      subst hEE
      have HNY := Lib.hid (And.intro y0 y1)
      generalize atT tl k = tk at *
      obtain ⟨tx, tb⟩ := tk
      dsimp only at y0 y1 HST HNY

      go_wp2_with fail
      have hlq : b < w4.heap.size := Nat.lt_of_lt_of_le hbl HR4.out.wb.be.size
      have HBL := Lib.hid (show b < w.heap.size ∧ b < lo from ⟨hbl, Nat.lt_trans hbl HR4.out.hl⟩)
      go_cut [9, 10] from 64 to 78 (fun s9 s10 wc => ∃ bx : Nat, s9 = .pointer (some ⟨bx, 0, none⟩) ∧ s10 = .int .i64 f ∧ Hid (Ks w wc lo hi p wr.heap.size w4.heap.size p2 bx M1 M [.int .i64 eco, .int .i64 ea, .int .i64 eop, .int .i64 ewo, .int .i64 ewd, .int .i64 eva, .int .i64 ecd] c A B C D l ws os ds c1 c2 c3 c4 ∧ hi ≤ bx ∧ w4.heap.size ≤ bx))
      case first =>
          have HS0 := Lib.hid (HST.out w4.drew (ext_drew (Below.refl _ w4)))
          have HS9 := Lib.hid (HST.out (w4.alloc (.cells #[.int .i64 0, .int .i64 0, .int .i64 0, .int .i64 0, .int .i64 0, .int .i64 0, .int .i64 0] 42)).drew (ext_drew (ext_alloc _ (Below.refl _ w4))))
          go_region_with (first | (go_at_call 34; refine HS0.out.mono ?_; rintro e w5 ⟨rfl, hM, hr⟩; have HA5 := Lib.hid ((HR4.out.ext (ext_drew (Below.refl _ w4))).step hM HG1.out HC1.out hr); have HB5 := Lib.hid ((HM2.out.ext (ext_drew (Below.refl _ w4))).rg hr (.inr HI1.out)); have HZ5 := Lib.hid (show w4.heap.size ≤ w5.heap.size from hr.size); clear hM hr) | (go_at_call 34; refine HS9.out.mono ?_; rintro e w5 ⟨rfl, hM, hr⟩; have HA5 := Lib.hid ((HR4.out.ext (ext_drew (ext_alloc (.cells #[.int .i64 0, .int .i64 0, .int .i64 0, .int .i64 0, .int .i64 0, .int .i64 0, .int .i64 0] 42) (Below.refl _ w4)))).step hM HG1.out HC1.out hr); have HB5 := Lib.hid ((HM2.out.ext (ext_drew (ext_alloc (.cells #[.int .i64 0, .int .i64 0, .int .i64 0, .int .i64 0, .int .i64 0, .int .i64 0, .int .i64 0] 42) (Below.refl _ w4)))).rg hr (.inr HI1.out)); have HX5 := Lib.hid ((hr.block w4.heap.size (by simp) (.inr HR4.out.mc.sz.1)).trans (show (w4.alloc (.cells #[.int .i64 0, .int .i64 0, .int .i64 0, .int .i64 0, .int .i64 0, .int .i64 0, .int .i64 0] 42)).drew.heap[w4.heap.size]? = _ from alNew rfl)); obtain ⟨x0, x1, x2, x3, x4, x5, x6, xf, xl⟩ := ev_cells HX5.out; clear hM hr))
          all_goals (try go_wp2_with fail)
          all_goals go_meet
          all_goals first
            | (have hg7 := set7_grown w5 w4.heap.size (.int .i64 eco) (.int .i64 ea) (.int .i64 eop) (.int .i64 ewo) (.int .i64 ewd) (.int .i64 eva) (.int .i64 ecd)
               have hx7 := set7_blk (.int .i64 eco) (.int .i64 ea) (.int .i64 eop) (.int .i64 ewo) (.int .i64 ewd) (.int .i64 eva) (.int .i64 ecd) HX5.out
               unfold set7 at hg7 hx7
               exact ⟨_, rfl, rfl, Lib.hid ⟨⟨HA5.out.box hg7 HR4.out.mc.sz.1, HB5.out.box hg7 (Nat.le_refl _), hx7⟩, HR4.out.mc.sz.1, Nat.le_refl _⟩⟩)
            | exact ⟨_, rfl, rfl, Lib.hid ⟨⟨HA5.out.ext (ext_alloc _ (Below.refl _ _)), HB5.out.ext (ext_alloc _ (Below.refl _ _)), alNew rfl⟩, Nat.le_trans HR4.out.mc.sz.1 HZ5.out, HZ5.out⟩⟩
      case rest =>
        obtain ⟨bx, rfl, rfl, HS⟩ := hcut
        have HBX := Lib.hid (And.intro HS.out.2.1 HS.out.2.2)
        have HS := Lib.hid HS.out.1
        have HN2 := Lib.hid (show 2 * (M.m.n : Int) = lin c * 2 ∧ M.m.n ≤ 32 ∧ (M.ng : Int) = c.gr ∧ M.ng ≤ 16 ∧ M1.m.n = M.m.n ∧ M1.ng = M.ng ∧ M1.nc = M.nc ∧ M.m.n = 2 * M.ng from by
          have h1 := Ma.n_of HR4.out.gd.1
          have h2 := Mm.n_of M.m
          have h3 := HR4.out.hc
          have h4 := HC1.out
          have e1 : M1.m.n = M.m.n := by unfold Mm.n; rw [h4]
          have e2 : M1.ng = M.ng := by unfold Ma.ng; rw [h4]
          have e3 : M1.nc = M.nc := by unfold Ma.nc; rw [h4]
          rw [h3] at h1 h2
          omega)
        have HNC := Lib.hid (Ma.n_of HR4.out.gd.1)
        clear HR4 HM2 HST y0 y1 hlq
        generalize wr.heap.size = lo2 at *
        generalize w4.heap.size = hi2 at *
        obtain ⟨k0, hk0⟩ : ∃ k0, k0 = k := ⟨k, rfl⟩
        subst hk0
        obtain ⟨t0, t1, t2, t3, t4, t5, t6, t7, t8, t9, t10⟩ := eleven_at HS.out.a.wb.box
        have hl1 := lt_of HS.out.a.wb.box
        obtain ⟨x0, x1, x2, x3, x4, x5, x6, xf, xl⟩ := ev_cells HS.out.x
        go_upto_if 79 with (fail)
        iterate 5 go_step
        obtain ⟨cb, hcb⟩ : ∃ cb, cb = (((f == 0) && (eop == 8)) && (ecd == 0)) := ⟨_, rfl⟩
        have HCB := Lib.hid hcb
        go_cut [11] from 80 to 92 (fun s11 we => s11 = .bool cb ∧ we = wc)
        case first =>
            cases f0 : (f == 0) <;> cases f1 : (eop == 8) <;> cases f2 : (ecd == 0)
            all_goals
              rw [f0, f1, f2] at hcb
              go_wp2_with fail
              go_meet
              exact ⟨by rw [hcb]; rfl, rfl⟩
        case rest =>
          obtain ⟨rfl, hwc⟩ := hcut
          subst hwc
          clear hcb
          go_step
          go_wp2_with fail
          clear t0 t1 t2 t3 t4 t5 t6 t7 t8 t9 t10 hl1 x0 x1 x2 x3 x4 x5 x6 xf xl
          go_loopg [12] (2 * M.m.n) (fun g s12 wr => ∃ k : Nat, s12 = .int .i64 k ∧ k + g = 2 * M.m.n ∧ Hid (Ks w wr lo hi p lo2 hi2 p2 bx M1 M [.int .i64 eco, .int .i64 ea, .int .i64 eop, .int .i64 ewo, .int .i64 ewd, .int .i64 eva, .int .i64 ecd] c A B C D l ws os ds c1 c2 c3 c4))
          case atStart => exact ⟨0, rfl, by omega, HS⟩
          case round =>
            obtain ⟨k, rfl, hk, HR⟩ := hrel
            obtain ⟨t0, t1, t2, t3, t4, t5, t6, t7, t8, t9, t10⟩ := eleven_at HR.out.a.wb.box
            have hl1 := lt_of HR.out.a.wb.box
            have hk64 : (k : Int) ≤ 64 := by have := HN2.out; omega
            have HWD := Lib.hid (words_any c wr (HL.out.ext HR.out.a.wb.be))
            by_cases hlt : k < 2 * M.m.n
            · exact kp_word HL HR HN2 HCB HK1 hk hlt (by assumption) (by assumption)
            · have ek : decide ((k : Int) < lin c * 2) = false := by have := HN2.out; simp; omega
              clear hk hlt
              go_wp2_with fail
              refine HWD.out.mono ?_
              rintro e wa ⟨rfl, hb⟩
              have HRa := Lib.hid (HR.out.ext hb)
              clear hb t0 t1 t2 t3 t4 t5 t6 t7 t8 t9 t10 hl1 HWD HR
              obtain ⟨t0, t1, t2, t3, t4, t5, t6, t7, t8, t9, t10⟩ := eleven_at HRa.out.a.wb.box
              have hl1 := lt_of HRa.out.a.wb.box
              go_wp2_with fail
              clear t0 t1 t2 t3 t4 t5 t6 t7 t8 t9 t10 hl1
              go_loopg [21] M.ng (fun g s21 wr => ∃ k : Nat, s21 = .int .i64 k ∧ k + g = M.ng ∧ Hid (Ks w wr lo hi p lo2 hi2 p2 bx M1 M [.int .i64 eco, .int .i64 ea, .int .i64 eop, .int .i64 ewo, .int .i64 ewd, .int .i64 eva, .int .i64 ecd] c A B C D l ws os ds c1 c2 c3 c4))
              case atStart => exact ⟨0, rfl, by omega, HRa⟩
              case round =>
                obtain ⟨k, rfl, hk, HR⟩ := hrel
                obtain ⟨t0, t1, t2, t3, t4, t5, t6, t7, t8, t9, t10⟩ := eleven_at HR.out.a.wb.box
                have hl1 := lt_of HR.out.a.wb.box
                have hk16 : (k : Int) ≤ 16 := by have := HN2.out; omega
                by_cases hlt : k < M.ng
                · exact kp_own HL HR HN2 HCB HK2 hk hlt (by assumption) (by assumption)
                · have ek : decide ((k : Int) < c.gr) = false := by have := HN2.out; simp; omega
                  clear hk hlt t0 t1 t2 t3 t4 t5 t6 t7 t8 t9 t10 hl1
                  obtain ⟨t0, t1, t2, t3, t4, t5, t6, t7, t8, t9, t10⟩ := eleven_at HR.out.a.wb.box
                  have hl1 := lt_of HR.out.a.wb.box
                  have HS := HR
                  by_cases h0 : f = 0
                  case neg =>
                    have g0 : (f != 0) = true := by simpa using h0
                    clear h0
                    clear t0 t1 t2 t3 t4 t5 t6 t7 t8 t9 t10 hl1
                    obtain ⟨t0, t1, t2, t3, t4, t5, t6, t7, t8, t9, t10⟩ := eleven_at HS.out.a.wb.box
                    have hl1 := lt_of HS.out.a.wb.box
                    go_wp2_with fail
                    go_roundg (tl.length - (k0 + 1))
                    case measure => have := HLT.out; omega
                    case rel => exact ⟨k0 + 1, _, by go_num, by have := HLT.out; omega, Lib.hid HS.out.a⟩
                  have g0 : (f != 0) = false := by simpa using h0
                  have HF0 := Lib.hid h0
                  clear h0
                  obtain ⟨i, hco, hi', hT⟩ := HK3.out HF0.out
                  subst hco
                  have hC1 := fun (W : World) (hb : Below wr.heap.size wr W) => acore_all (HS.out.b.ext hb) (i : Int)
                  have hC2 := fun (W : World) (hb : Below wr.heap.size wr W) => acore_all (HS.out.a.mc.ext hb) (i : Int)
                  rw [coreA_in hi'] at hC1
                  rw [coreA_in (by have := HN2.out; omega)] at hC2
                  obtain ⟨s, hs⟩ : ∃ s, s = M.se i := ⟨_, rfl⟩
                  obtain ⟨s1, hs1⟩ : ∃ s, s = M1.se i := ⟨_, rfl⟩
                  rw [← hs] at hC1 hT
                  rw [← hs1] at hC2 hT
                  clear hs hs1
                  obtain ⟨r, a, wo, ov, ps⟩ := s
                  obtain ⟨r1, a1, wo1, ov1, ps1⟩ := s1
                  dsimp only at hT hC1 hC2
                  obtain ⟨x0, x1, x2, x3, x4, x5, x6, xf, xl⟩ := ev_cells HS.out.x
                  have hnr := neqRegs11
                  have HC1' := Lib.hid hC1
                  have HC2' := Lib.hid hC2
                  have HT := Lib.hid hT
                  clear hC1 hC2 hT
                  go_wp2_with fail
                  refine (HC1'.out _ (Below.refl _ _)).mono ?_
                  rintro e w6 ⟨rfl, hb⟩
                  have HS6 := Lib.hid (HS.out.ext hb)
                  have HB6 := Lib.hid hb
                  clear hb x0 x1 x2 x3 x4 x5 x6 xf xl
                  obtain ⟨x0, x1, x2, x3, x4, x5, x6, xf, xl⟩ := ev_cells HS6.out.x
                  go_wp2_with fail
                  refine (HC2'.out _ (ext_alloc _ HB6.out)).mono ?_
                  rintro e w7 ⟨rfl, hb⟩
                  have HS7 := Lib.hid ((HS6.out.ext (ext_alloc (.cells #[.int .i64 (r 0), .int .i64 (r 1), .int .i64 (r 2), .int .i64 (r 3), .int .i64 a, .int .i64 wo, .bool ov] 32) (Below.refl _ _))).ext hb)
                  have HX7 := Lib.hid ((hb.block w6.heap.size (by simp)).trans (alNew (o := .cells #[.int .i64 (r 0), .int .i64 (r 1), .int .i64 (r 2), .int .i64 (r 3), .int .i64 a, .int .i64 wo, .bool ov] 32) rfl))
                  clear hb x0 x1 x2 x3 x4 x5 x6 xf xl
                  obtain ⟨x0, x1, x2, x3, x4, x5, x6, xf, xl⟩ := ev_cells HS7.out.x
                  obtain ⟨z0, z1, z2, z3, z4, z5, z6, zf, zl⟩ := ev_cells HX7.out
                  clear x0 x1 x3 x4 x5 xf zf
                  go_upto_region 35 with (fail)
                  go_cut [257] from 216 to 257 (fun s257 we => s257 = .bool false ∧ Hid (Ks w we lo hi p lo2 hi2 p2 bx M1 M [.int .i64 (i : Int), .int .i64 ea, .int .i64 eop, .int .i64 ewo, .int .i64 ewd, .int .i64 eva, .int .i64 ecd] c A B C D l ws os ds c1 c2 c3 c4))
                  case first =>
                      have hT := HT.out
                      rcases hT with ⟨hc19, hr, hwo, ha, ha0, ha32⟩ | ⟨hc19, hwo⟩ | ⟨hc19, h7, hwo⟩
                      · subst hr
                        subst hwo
                        subst ha
                        have g19 : (ecd == 19) = true := by simpa using hc19
                        clear hc19
                        go_wp2_with fail
                        go_meet
                        exact ⟨rfl, Lib.hid (HS7.out.ext (ext_alloc _ (Below.refl _ _)))⟩
                      · subst hwo
                        have g19 : (ecd == 19) = false := by simpa using hc19
                        clear hc19
                        go_wp2_with fail
                        go_meet
                        exact ⟨rfl, Lib.hid (HS7.out.ext (ext_alloc _ (Below.refl _ _)))⟩
                      · have g19 : (ecd == 19) = false := by simpa using hc19
                        have g7 : (eop != 7) = false := by simpa using h7
                        have gz : (wo != 0) = false := by simpa using hwo
                        clear hc19 h7 hwo
                        cases g1 : (wo != wo1)
                        · go_wp2_with fail
                          go_meet
                          exact ⟨rfl, Lib.hid (HS7.out.ext (ext_alloc _ (Below.refl _ _)))⟩
                        · go_wp2_with fail
                          go_meet
                          exact ⟨rfl, Lib.hid (HS7.out.ext (ext_alloc _ (Below.refl _ _)))⟩
                  case rest =>
                    obtain ⟨rfl, HS8⟩ := hcut
                    go_wp2_with fail
                    go_roundg (tl.length - (k0 + 1))
                    case measure => have := HLT.out; omega
                    case rel => exact ⟨k0 + 1, _, by go_num, by have := HLT.out; omega, Lib.hid HS8.out.a⟩
    · have ek : decide ((k : Int) < (tl.length : Int)) = false := by simp; omega
      have ek2 : decide (k < tl.length) = false := by simpa using hlt
      clear hk hlt
      go_wp2_with fail
      refine (HAW.out _ HR.out.wb.be).mono ?_
      rintro e w9 ⟨rfl, hb⟩
      have HB9 := Lib.hid (ext_trans HR.out.wb.be hb)
      clear hb
      go_wp2_with fail
      go_ret
      exact ⟨rfl, HB9.out⟩
theorem atomkeeps (hL : Lims w) (hO : Ops w) (hA : SlR w A l) (hm : l.length ≤ maxLen) (hB : SlI w B ws) (hC : SlI w C os) (hD : SlI w D ds) (hE : SlT w E tl) :
    Calls Tryd.prog 10 #[.agg #[.int .i64 c.co, .int .i64 c.gr, .int .i64 c.se, .int .i64 c.wa, .int .i64 c.de, .int .i64 c.en, .int .i64 c.ba, .slice A l.length c1, .slice B ws.length c2, .slice C os.length c3, .slice D ds.length c4], .slice E tl.length c5] w fun e w' => e = .returned (.bool true) ∧ Below w.heap.size w w' := by
  cases hfw : fewB l ws os ds
  · exact kp_few c A B C D E l ws os ds c1 c2 c3 c4 c5 tl w hL hO hA hm hB hC hD hE hfw
  by_cases hn : 60 < tl.length
  · exact kp_many c A B C D E l ws os ds c1 c2 c3 c4 c5 tl w hL hO hA hm hB hC hD hE hfw hn
  by_cases hw : newE11 c l ws os ds = 0
  · exact kp_main c A B C D E l ws os ds c1 c2 c3 c4 c5 tl w hL hO hA hm hB hC hD hE hfw hn hw
  · exact kp_wrong c A B C D E l ws os ds c1 c2 c3 c4 c5 tl w hL hO hA hm hB hC hD hE hfw hn hw
end
end Go.Proofs.YtkobeajbiendlaaDoor
