/- What this text holds: the law AtomBusy, walked. Conditions: the tables of limits and of ops hold what their initialisers lay. -/
import Derived.Test.YtkobeajbiendlaaDoorFw11B
import Derived.Test.YtkobeajbiendlaaDoorPl11
import Derived.Test.YtkobeajbiendlaaDoorOpen11B
import Derived.Test.YtkobeajbiendlaaDoorAtmU
import Derived.StillTailTactics
import Derived.Deep.CutRange
namespace Go.Proofs.YtkobeajbiendlaaDoor
open Go.RowKit

/-- A world and a machine of it, side by side. -/
structure Lw (w wr : World) (lo hi p : Nat) (M : Ma) (c : Cfg) (A B C D : Option Addr) (l : List Pr) (ws os ds : List Int) (c1 c2 c3 c4 : Nat) : Prop where
  wb : Wb w wr w.heap.size c A B C D l ws os ds c1 c2 c3 c4
  mc : Mc wr lo hi p M
  gd : M.Good
  hc : M.m.c = c
  hl : w.heap.size < lo
section
variable {w a b : World} {lo hi p : Nat} {M M' : Ma} {c : Cfg} {A B C D : Option Addr} {l : List Pr} {ws os ds : List Int} {c1 c2 c3 c4 : Nat}
theorem Lw.ext (h : Lw w a lo hi p M c A B C D l ws os ds c1 c2 c3 c4) (hb : Below a.heap.size a b) : Lw w b lo hi p M c A B C D l ws os ds c1 c2 c3 c4 := ⟨h.wb.ext hb, h.mc.ext hb, h.gd, h.hc, h.hl⟩
theorem Wb.rg {lo' hi' n : Nat} (h : Wb w a n c A B C D l ws os ds c1 c2 c3 c4) (hr : Rg lo' hi' a b) (hl : n < lo') (hw : w.heap.size ≤ lo') : Wb w b n c A B C D l ws os ds c1 c2 c3 c4 := ⟨hr.below h.be hw, (hr.block _ (lt_of h.box) (.inl hl)).trans h.box⟩
theorem Lw.step (h : Lw w a lo hi p M c A B C D l ws os ds c1 c2 c3 c4) (hm : Mc b lo hi p M') (hg : M'.Good) (hc : M'.m.c = M.m.c) (hr : Rg lo hi a b) : Lw w b lo hi p M' c A B C D l ws os ds c1 c2 c3 c4 :=
  ⟨h.wb.rg hr h.hl (Nat.le_of_lt h.hl), hm, hg, hc.trans h.hc, h.hl⟩
theorem Lw.rg {lo' hi' : Nat} (h : Lw w a lo hi p M c A B C D l ws os ds c1 c2 c3 c4) (hr : Rg lo' hi' a b) (hd : hi ≤ lo' ∨ hi' ≤ lo) (hl : w.heap.size < lo') : Lw w b lo hi p M c A B C D l ws os ds c1 c2 c3 c4 :=
  ⟨h.wb.rg hr hl (Nat.le_of_lt hl), h.mc.rg hr hd, h.gd, h.hc, h.hl⟩
end
/-- A machine, a copy that was made of it, and one that went its own way. -/
structure Tr (w wr : World) (lo hi p lo2 lo3 p2 hi3 p3 : Nat) (M1 M M2 : Ma) (c : Cfg) (A B C D : Option Addr) (l : List Pr) (ws os ds : List Int) (c1 c2 c3 c4 : Nat) : Prop where
  a : Lw w wr lo hi p M1 c A B C D l ws os ds c1 c2 c3 c4
  b : Mc wr lo2 lo3 p2 M
  d : Mc wr lo3 hi3 p3 M2
theorem Tr.ext {w a b : World} {lo hi p lo2 lo3 p2 hi3 p3 : Nat} {M1 M M2 : Ma} {c : Cfg} {A B C D : Option Addr} {l : List Pr} {ws os ds : List Int} {c1 c2 c3 c4 : Nat} (h : Tr w a lo hi p lo2 lo3 p2 hi3 p3 M1 M M2 c A B C D l ws os ds c1 c2 c3 c4) (hb : Below a.heap.size a b) : Tr w b lo hi p lo2 lo3 p2 hi3 p3 M1 M M2 c A B C D l ws os ds c1 c2 c3 c4 := ⟨h.a.ext hb, h.b.ext hb, h.d.ext hb⟩
section
variable (c : Cfg) (A B C D E : Option Addr) (l : List Pr) (ws os ds : List Int) (c1 c2 c3 c4 c5 : Nat) (tl : List (Int × Bool)) (core : Int) (w : World)
set_option maxRecDepth 100000 in
set_option maxHeartbeats 8000000 in
theorem atombusy (hL : Lims w) (hO : Ops w) (hA : SlR w A l) (hm : l.length ≤ maxLen) (hB : SlI w B ws) (hC : SlI w C os) (hD : SlI w D ds) (hE : SlT w E tl) :
    Calls Tryd.prog 9 #[.agg #[.int .i64 c.co, .int .i64 c.gr, .int .i64 c.se, .int .i64 c.wa, .int .i64 c.de, .int .i64 c.en, .int .i64 c.ba, .slice A l.length c1, .slice B ws.length c2, .slice C os.length c3, .slice D ds.length c4], .slice E tl.length c5, .int .i64 core] w fun e w' => e = .returned (.bool true) ∧ Below w.heap.size w w' := by
  have HN := Lib.hid (Wb.new c A B C D l ws os ds c1 c2 c3 c4 w)
  have HFW := fun (W : World) (hb : Below w.heap.size w W) => few_any c A B C D l ws os ds c1 c2 c3 c4 W (hA.ext hb) hm
  have HWR := fun (W : World) (hb : Below w.heap.size w W) hf => wrong_any c A B C D l ws os ds c1 c2 c3 c4 W (hA.ext hb) (hB.ext hb) (hC.ext hb) hf
  have HMD := Lib.hid (fun (W : World) (hb : Below w.heap.size w W) => amade c A B C D l ws os ds c1 c2 c3 c4 W (hL.ext hb) (hO.ext hb) (hA.ext hb) (hB.ext hb) (hC.ext hb) (hD.ext hb))
  have HAW := Lib.hid (fun (W : World) (hb : Below w.heap.size w W) => awake11 W (hL.ext hb) (hO.ext hb))
  have HL := Lib.hid hL
  have HE := Lib.hid hE
  clear hL hO hA hm hB hC hD hE
  cases hfw : fewB l ws os ds
  · rw [hfw] at HFW
    have HFW := Lib.hid HFW
    clear hfw HWR HMD
    go_enter Tryd.func9, Tryd.ntmps9
    obtain ⟨t0, t1, t2, t3, t4, t5, t6, t7, t8, t9, t10⟩ := eleven_at HN.out.box
    go_wp2_with fail
    refine (HFW.out _ HN.out.be).mono ?_
    rintro e w1 ⟨rfl, hb⟩
    have HN1 := Lib.hid (HN.out.ext hb)
    clear hb
    go_wp2_with fail
    refine (HAW.out _ HN1.out.be).mono ?_
    rintro e w2 ⟨rfl, hb⟩
    have HB2 := Lib.hid (ext_trans HN1.out.be hb)
    clear hb
    go_wp2_with fail
    go_ret
    exact ⟨rfl, HB2.out⟩
  rw [hfw] at HFW
  have HFW := Lib.hid HFW
  have HWR := Lib.hid (fun (W : World) (hb : Below w.heap.size w W) => HWR W hb (fewB_len hfw).2.2.2.2)
  have HFL := Lib.hid (fewB_len hfw)
  clear hfw
  by_cases hn : 40 < tl.length
  · have en : decide ((tl.length : Int) > 40) = true := by simp; omega
    clear hn
    go_enter Tryd.func9, Tryd.ntmps9
    obtain ⟨t0, t1, t2, t3, t4, t5, t6, t7, t8, t9, t10⟩ := eleven_at HN.out.box
    go_wp2_with fail
    refine (HFW.out _ HN.out.be).mono ?_
    rintro e w1 ⟨rfl, hb⟩
    have HN1 := Lib.hid (HN.out.ext hb)
    clear hb
    go_wp2_with fail
    refine (HAW.out _ HN1.out.be).mono ?_
    rintro e w2 ⟨rfl, hb⟩
    have HB2 := Lib.hid (ext_trans HN1.out.be hb)
    clear hb
    go_wp2_with fail
    go_ret
    exact ⟨rfl, HB2.out⟩
  have en : decide ((tl.length : Int) > 40) = false := by simp; omega
  have H40 := Lib.hid (show tl.length ≤ 40 by omega)
  clear hn
  by_cases hw : newE11 c l ws os ds = 0
  case neg =>
    have ew : (newE11 c l ws os ds != 0) = true := by simpa using hw
    clear hw HMD
    generalize newE11 c l ws os ds = nw at *
    go_enter Tryd.func9, Tryd.ntmps9
    obtain ⟨t0, t1, t2, t3, t4, t5, t6, t7, t8, t9, t10⟩ := eleven_at HN.out.box
    go_wp2_with fail
    refine (HFW.out _ HN.out.be).mono ?_
    rintro e w1 ⟨rfl, hb⟩
    have HN1 := Lib.hid (HN.out.ext hb)
    clear hb t0 t1 t2 t3 t4 t5 t6 t7 t8 t9 t10
    obtain ⟨t0, t1, t2, t3, t4, t5, t6, t7, t8, t9, t10⟩ := eleven_at HN1.out.box
    have hl1 := lt_of HN1.out.box
    go_wp2_with fail
    refine (HWR.out _ HN1.out.be).mono ?_
    rintro e w2 ⟨rfl, hb⟩
    have HN2 := Lib.hid (HN1.out.ext hb)
    clear hb t0 t1 t2 t3 t4 t5 t6 t7 t8 t9 t10 hl1
    go_wp2_with fail
    refine (HAW.out _ HN2.out.be).mono ?_
    rintro e w3 ⟨rfl, hb⟩
    have HB2 := Lib.hid (ext_trans HN2.out.be hb)
    clear hb
    go_wp2_with fail
    go_ret
    exact ⟨rfl, HB2.out⟩
  have HWR := HWR.out
  rw [hw] at HWR
  have HWR := Lib.hid HWR
  have HW := Lib.hid hw
  clear hw
  go_enter Tryd.func9, Tryd.ntmps9
  obtain ⟨t0, t1, t2, t3, t4, t5, t6, t7, t8, t9, t10⟩ := eleven_at HN.out.box
  go_wp2_with fail
  refine (HFW.out _ HN.out.be).mono ?_
  rintro e w1 ⟨rfl, hb⟩
  have HN1 := Lib.hid (HN.out.ext hb)
  clear hb t0 t1 t2 t3 t4 t5 t6 t7 t8 t9 t10
  obtain ⟨t0, t1, t2, t3, t4, t5, t6, t7, t8, t9, t10⟩ := eleven_at HN1.out.box
  have hl1 := lt_of HN1.out.box
  go_wp2_with fail
  refine (HWR.out _ HN1.out.be).mono ?_
  rintro e w2 ⟨rfl, hb⟩
  have HN2 := Lib.hid (HN1.out.ext hb)
  clear hb t0 t1 t2 t3 t4 t5 t6 t7 t8 t9 t10 hl1
  obtain ⟨t0, t1, t2, t3, t4, t5, t6, t7, t8, t9, t10⟩ := eleven_at HN2.out.box
  have hl1 := lt_of HN2.out.box
  go_wp2_with fail
  refine (HMD.out _ HN2.out.be).mono ?_
  rintro e w3 ⟨⟨h0, p, lo, hi, rfl, hM, hlo⟩ | ⟨h0, _⟩, hb⟩
  case inr => exact absurd HW.out h0
  have HP := Lib.hid (show Lw w w3 lo hi p (maNew c l ws os ds l.length) c A B C D l ws os ds c1 c2 c3 c4 from ⟨HN2.out.ext hb, hM, Ma.Good.new h0, rfl, Nat.lt_of_lt_of_le hl1 hlo⟩)
  clear h0 hM hlo hb t0 t1 t2 t3 t4 t5 t6 t7 t8 t9 t10 hl1 HMD HWR HFW HN HN1 HN2
  generalize maNew c l ws os ds l.length = M0 at *
  go_wp2_with fail
  go_loopg [9] tl.length (fun g s9 wr => ∃ (k : Nat) (M : Ma), s9 = .int .i64 k ∧ k + g = tl.length ∧ Hid (Lw w wr lo hi p M c A B C D l ws os ds c1 c2 c3 c4))
  case atStart => exact ⟨0, M0, rfl, by omega, HP⟩
  case round =>
    obtain ⟨k, M, rfl, hk, HR⟩ := hrel
    by_cases hlt : k < tl.length
    · have ek : decide ((k : Int) < (tl.length : Int)) = true := by simp; omega
      have ek2 : decide (k < tl.length) = true := by simpa using hlt
      obtain ⟨b, off, hEE, hbl, hcs⟩ := ((HE.out.ext HR.out.wb.be) (by omega))
      obtain ⟨y0, y1⟩ := hcs k hlt
      have hkl : (k : Int) < (tl.length : Int) := by omega
      have hk40 : (k : Int) ≤ 40 := by have := H40.out; omega
      have HLT := Lib.hid (And.intro hk hlt)
      have HST := Lib.hid (astep_all (HR.out.mc.ext (ext_drew (Below.refl _ wr))) HR.out.gd (HL.out.ext (ext_drew HR.out.wb.be)) (atT tl k).1 (atT tl k).2)
      subst hEE
      clear hcs hk hlt
      generalize atT tl k = tk at *
      obtain ⟨tx, tb⟩ := tk
      dsimp only at y0 y1 HST
      go_wp2_with fail
      go_still_tail 11, (by kernel_rfl)
      change wpList _ _ _ _ _ wr.drew
      go_wp2_with fail
      refine HST.out.mono ?_
      rintro e w4 ⟨rfl, hM, hr⟩
      have HR4 := Lib.hid ((HR.out.ext (ext_drew (Below.refl _ _))).step hM (HR.out.gd.stepA _ _) (stepA_c _ _ _) hr)
      clear hM hr y0 y1 hbl
      go_wp2_with fail
      go_roundg (tl.length - (k + 1))
      case measure => have := HLT.out; omega
      case rel => exact ⟨k + 1, _, by go_num, by have := HLT.out; omega, HR4⟩
    · have ek : decide ((k : Int) < (tl.length : Int)) = false := by simp; omega
      have ek2 : decide (k < tl.length) = false := by simpa using hlt
      clear hk hlt
      go_wp2_with fail
      refine (acopy_all HR.out.mc HR.out.gd).mono ?_
      rintro e w4 ⟨p2, rfl, hM2, hb⟩
      have HR4 := Lib.hid (HR.out.ext hb)
      have HM2 := Lib.hid hM2
      have HI1 := Lib.hid (show hi ≤ wr.heap.size from HR.out.mc.sz.1)
      clear hM2 hb
      go_wp2_with fail
      refine (acopy_all HR4.out.mc HR4.out.gd).mono ?_
      rintro e w5 ⟨p3, rfl, hM3, hb⟩
      have HR5 := Lib.hid (HR4.out.ext hb)
      have HM25 := Lib.hid (HM2.out.ext hb)
      have HM3 := Lib.hid hM3
      clear hM3 hb HR4 HM2
      generalize wr.heap.size = lo2 at *
      generalize w4.heap.size = lo3 at *
      generalize w5.heap.size = hi3 at *
      obtain ⟨eco, ea, eop, ewo, ewd, eva, d1, d2, f, M1, M2, q1, q2, hd2, hk1, hk0⟩ := busy_ev M core
      have HS1 := astep_all HR5.out.mc HR5.out.gd (HL.out.ext HR5.out.wb.be) core true
      have HG1 := Lib.hid (HR5.out.gd.stepA core true)
      have HC1 := Lib.hid (stepA_c M core true)
      have HC2 := Lib.hid (stepA_c M core false)
      rw [q1] at HS1 HG1 HC1
      rw [q2] at HC2
      have HS1 := Lib.hid HS1
      have HQ2 := Lib.hid q2
      have HGR := Lib.hid (show (M.ng : Int) = c.gr from by have := (Ma.n_of HR5.out.gd.1).2.2.2.1; rw [HR5.out.hc] at this; exact this)
      rw [HGR.out] at hk1 hk0
      have HKL := Lib.hid (And.intro hd2 (And.intro hk1 hk0))
      have HGM := Lib.hid HR5.out.gd
      have HCM := Lib.hid HR5.out.hc
      clear q1 q2 hd2 hk1 hk0
      go_wp2_with fail
      refine HS1.out.mono ?_
      rintro e w6 ⟨rfl, hM, hr⟩
      have HR6 := Lib.hid (HR5.out.step hM HG1.out HC1.out hr)
      have HM26 := Lib.hid (HM25.out.rg hr (.inr HI1.out))
      have HM36 := Lib.hid (HM3.out.rg hr (.inr (by have := HM25.out.sz; have := HI1.out; omega)))
      clear hM hr HS1 HR5 HM25 HM3
      go_wp2_with fail
      obtain ⟨W6, hW6⟩ : ∃ W, W = w6.alloc (.cells #[.int .i64 eco, .int .i64 ea, .int .i64 eop, .int .i64 ewo, .int .i64 ewd, .int .i64 eva, .int .i64 d1] 42) := ⟨_, rfl⟩
      have hx6 : W6.heap[w6.heap.size]? = some (.cells #[.int .i64 eco, .int .i64 ea, .int .i64 eop, .int .i64 ewo, .int .i64 ewd, .int .i64 eva, .int .i64 d1] 42 (0, 0)) := by rw [hW6]; exact alNew rfl
      have hb6 : Below w6.heap.size w6 W6 := by rw [hW6]; exact ext_alloc _ (Below.refl _ _)
      rw [← hW6]
      have HR7 := Lib.hid (HR6.out.ext hb6)
      have HM27 := Lib.hid (HM26.out.ext hb6)
      have HM37 := Lib.hid (HM36.out.ext hb6)
      have HX7 := Lib.hid hx6
      have HBX := Lib.hid (show hi ≤ w6.heap.size ∧ lo3 ≤ w6.heap.size ∧ hi3 ≤ w6.heap.size from by have := HR6.out.mc.sz; have := HM26.out.sz; have := HM36.out.sz; omega)
      clear hW6 hx6 hb6 HR6 HM26 HM36
      generalize w6.heap.size = bx at *
      have HS2 := astep_all HM37.out HGM.out (HL.out.ext HR7.out.wb.be) core false
      rw [HQ2.out] at HS2
      have HS2 := Lib.hid HS2
      refine HS2.out.mono ?_
      rintro e w7 ⟨rfl, hM, hr⟩
      have HHI := Lib.hid (show hi ≤ lo3 ∧ lo2 < lo3 ∧ w.heap.size < lo3 from by have := HM27.out.sz; have := HI1.out; have := HR7.out.mc.sz; have := HR7.out.hl; omega)
      have HR8 := Lib.hid (HR7.out.rg hr (.inl HHI.out.1) HHI.out.2.2)
      have HM28 := Lib.hid (HM27.out.rg hr (.inl (Nat.le_refl _)))
      have HX8 := Lib.hid ((hr.block bx (lt_of HX7.out) (.inr HBX.out.2.2)).trans HX7.out)
      have HM38 := Lib.hid hM
      clear hM hr HS2 HR7 HM27 HM37 HX7
      have hx8 := HX8.out
      obtain ⟨x0, x1, x2, x3, x4, x5, x6, xf, xl⟩ := ev_cells HX8.out
      obtain ⟨t0, t1, t2, t3, t4, t5, t6, t7, t8, t9, t10⟩ := eleven_at HR8.out.wb.box
      have hl1 := lt_of HR8.out.wb.box
      have HT := Lib.hid (show Tr w (w7.alloc (.cells #[.int .i64 eco, .int .i64 ea, .int .i64 eop, .int .i64 ewo, .int .i64 ewd, .int .i64 eva, .int .i64 d2] 42)) lo hi p lo2 lo3 p2 hi3 p3 M1 M M2 c A B C D l ws os ds c1 c2 c3 c4 from ⟨HR8.out.ext (ext_alloc _ (Below.refl _ _)), HM28.out.ext (ext_alloc _ (Below.refl _ _)), HM38.out.ext (ext_alloc _ (Below.refl _ _))⟩)
      have HNG : Hid ((M.ng : Int) = c.gr ∧ M.ng ≤ 16) := Lib.hid ⟨HGR.out, (Ma.n_of HGM.out.1).2.2.2.2.2.1⟩
      clear hx8 HR8 HM28 HM38 HX8 xf
      rcases lock_cases ⟨eco, ea, eop, ewo, ewd, eva, d1⟩ f c.gr with ⟨hk, f0, f1, f2, f3⟩ | ⟨hk, f0⟩ | ⟨hk, f0, f1⟩ | ⟨hk, f0, f1, f2⟩ | ⟨hk, f0, f1, f2, f3⟩
      · dsimp only at f1 f2 f3
        have HK := Lib.hid (HKL.out.2.1 hk)
        have HOE := Lib.hid (fun x => ownA_eq (M := M) (N := M1) HK.out.2.1 HC1.out x)
        have HGE := Lib.hid (fun x => getA_eq (M := M) (N := M1) HK.out.2.2 x)
        have hd := HK.out.1
        subst hd
        have d17 : (d2 == 17) = false := by have := HKL.out.1; simpa using this
        clear hk HKL
        go_wp2_with fail
        clear x0 x1 x2 x3 x4 x5 x6 xl t0 t1 t2 t3 t4 t5 t6 t7 t8 t9 t10 hl1
        go_loopg [17] M.ng (fun g s17 wr => ∃ k : Nat, s17 = .int .i64 k ∧ k + g = M.ng ∧ Hid (Tr w wr lo hi p lo2 lo3 p2 hi3 p3 M1 M M2 c A B C D l ws os ds c1 c2 c3 c4))
        case atStart => exact ⟨0, rfl, by omega, HT⟩
        case round =>
          obtain ⟨k, rfl, hk, HR⟩ := hrel
          obtain ⟨t0, t1, t2, t3, t4, t5, t6, t7, t8, t9, t10⟩ := eleven_at HR.out.a.wb.box
          have hl1 := lt_of HR.out.a.wb.box
          by_cases hlt : k < M.ng
          · have ek : decide ((k : Int) < c.gr) = true := by have := HNG.out; simp; omega
            have HLT := Lib.hid (And.intro hk hlt)
            have hk16 : (k : Int) ≤ 16 := by have := HNG.out; omega
            have HO1 := aown_all HR.out.a.mc (k : Int)
            rw [HOE.out] at HO1
            have HO1 := Lib.hid HO1
            clear hk hlt
            go_wp2_with fail
            refine HO1.out.mono ?_
            rintro e wa ⟨rfl, hb⟩
            have HRa := Lib.hid (HR.out.ext hb)
            clear hb t0 t1 t2 t3 t4 t5 t6 t7 t8 t9 t10 hl1
            go_wp2_with fail
            refine (aown_all HRa.out.d (k : Int)).mono ?_
            rintro e wb ⟨rfl, hb⟩
            have HRb := Lib.hid (HRa.out.ext hb)
            clear hb HRa HR HO1
            go_wp2_with fail
            refine (aown_all HRb.out.b (k : Int)).mono ?_
            rintro e wc ⟨rfl, hb⟩
            have HRc := Lib.hid (HRb.out.ext hb)
            clear hb HRb
            go_wp2_with fail
            go_loopg [24] 4 (fun g s24 wr => ∃ i : Nat, s24 = .int .i64 i ∧ i + g = 4 ∧ Hid (Tr w wr lo hi p lo2 lo3 p2 hi3 p3 M1 M M2 c A B C D l ws os ds c1 c2 c3 c4))
            case atStart => exact ⟨0, rfl, by omega, HRc⟩
            case round =>
              obtain ⟨i, rfl, hi', HR⟩ := hrel
              by_cases hlt : i < 4
              · have ek : decide ((i : Int) < 4) = true := by simp; omega
                have ek2 : decide (i < 4) = true := by simpa using hlt
                have HII := Lib.hid (And.intro hi' hlt)
                have hi4 : (i : Int) ≤ 4 := by omega
                have HG1 := aget_all HR.out.a.mc (HL.out.ext HR.out.a.wb.be) (4 * (k : Int) + (i : Int))
                rw [HGE.out] at HG1
                have HG1 := Lib.hid HG1
                clear hi' hlt
                go_wp2_with fail
                refine HG1.out.mono ?_
                rintro e wa ⟨rfl, hb⟩
                have HRa := Lib.hid (HR.out.ext hb)
                clear hb
                go_wp2_with fail
                refine (aget_all HRa.out.d (HL.out.ext HRa.out.a.wb.be) (4 * (k : Int) + (i : Int))).mono ?_
                rintro e wb ⟨rfl, hb⟩
                have HRb := Lib.hid (HRa.out.ext hb)
                clear hb HRa HR HG1
                go_wp2_with fail
                refine (aget_all HRb.out.b (HL.out.ext HRb.out.a.wb.be) (4 * (k : Int) + (i : Int))).mono ?_
                rintro e wc ⟨rfl, hb⟩
                have HRc := Lib.hid (HRb.out.ext hb)
                clear hb HRb
                go_wp2_with fail
                go_roundg (4 - (i + 1))
                case measure => have := HII.out; omega
                case rel => exact ⟨i + 1, by go_num, by have := HII.out; omega, HRc⟩
              · have ek : decide ((i : Int) < 4) = false := by simp; omega
                have ek2 : decide (i < 4) = false := by simpa using hlt
                clear hi' hlt
                go_wp2_with fail
                go_roundg (M.ng - (k + 1))
                case measure => have := HLT.out; omega
                case rel => exact ⟨k + 1, by go_num, by have := HLT.out; omega, HR⟩
          · have ek : decide ((k : Int) < c.gr) = false := by have := HNG.out; simp; omega
            clear hk hlt
            go_wp2_with fail
            refine (HAW.out _ HR.out.a.wb.be).mono ?_
            rintro e w9 ⟨rfl, hb⟩
            have HB9 := Lib.hid (ext_trans HR.out.a.wb.be hb)
            clear hb
            go_wp2_with fail
            go_ret
            exact ⟨rfl, HB9.out⟩
      · skip
        have HK := Lib.hid (HKL.out.2.2 hk)
        have hd := HK.out.1
        have hM := HK.out.2
        subst hd
        subst hM
        have d17 : (d1 == 17) = false := by have := HKL.out.1; simpa using this
        clear hk HKL
        go_wp2_with fail
        clear x0 x1 x2 x3 x4 x5 x6 xl t0 t1 t2 t3 t4 t5 t6 t7 t8 t9 t10 hl1
        go_loopg [17] M.ng (fun g s17 wr => ∃ k : Nat, s17 = .int .i64 k ∧ k + g = M.ng ∧ Hid (Tr w wr lo hi p lo2 lo3 p2 hi3 p3 M1 M M1 c A B C D l ws os ds c1 c2 c3 c4))
        case atStart => exact ⟨0, rfl, by omega, HT⟩
        case round =>
          obtain ⟨k, rfl, hk, HR⟩ := hrel
          obtain ⟨t0, t1, t2, t3, t4, t5, t6, t7, t8, t9, t10⟩ := eleven_at HR.out.a.wb.box
          have hl1 := lt_of HR.out.a.wb.box
          by_cases hlt : k < M.ng
          · have ek : decide ((k : Int) < c.gr) = true := by have := HNG.out; simp; omega
            have HLT := Lib.hid (And.intro hk hlt)
            have hk16 : (k : Int) ≤ 16 := by have := HNG.out; omega
            have HO1 := aown_all HR.out.a.mc (k : Int)
            have HOE := True.intro
            have HO1 := Lib.hid HO1
            clear hk hlt
            go_wp2_with fail
            refine HO1.out.mono ?_
            rintro e wa ⟨rfl, hb⟩
            have HRa := Lib.hid (HR.out.ext hb)
            clear hb t0 t1 t2 t3 t4 t5 t6 t7 t8 t9 t10 hl1
            go_wp2_with fail
            refine (aown_all HRa.out.d (k : Int)).mono ?_
            rintro e wb ⟨rfl, hb⟩
            have HRb := Lib.hid (HRa.out.ext hb)
            clear hb HRa HR HO1
            go_wp2_with fail
            refine (aown_all HRb.out.b (k : Int)).mono ?_
            rintro e wc ⟨rfl, hb⟩
            have HRc := Lib.hid (HRb.out.ext hb)
            clear hb HRb
            go_wp2_with fail
            go_loopg [24] 4 (fun g s24 wr => ∃ i : Nat, s24 = .int .i64 i ∧ i + g = 4 ∧ Hid (Tr w wr lo hi p lo2 lo3 p2 hi3 p3 M1 M M1 c A B C D l ws os ds c1 c2 c3 c4))
            case atStart => exact ⟨0, rfl, by omega, HRc⟩
            case round =>
              obtain ⟨i, rfl, hi', HR⟩ := hrel
              by_cases hlt : i < 4
              · have ek : decide ((i : Int) < 4) = true := by simp; omega
                have ek2 : decide (i < 4) = true := by simpa using hlt
                have HII := Lib.hid (And.intro hi' hlt)
                have hi4 : (i : Int) ≤ 4 := by omega
                have HG1 := aget_all HR.out.a.mc (HL.out.ext HR.out.a.wb.be) (4 * (k : Int) + (i : Int))
                have HGE := True.intro
                have HG1 := Lib.hid HG1
                clear hi' hlt
                go_wp2_with fail
                refine HG1.out.mono ?_
                rintro e wa ⟨rfl, hb⟩
                have HRa := Lib.hid (HR.out.ext hb)
                clear hb
                go_wp2_with fail
                refine (aget_all HRa.out.d (HL.out.ext HRa.out.a.wb.be) (4 * (k : Int) + (i : Int))).mono ?_
                rintro e wb ⟨rfl, hb⟩
                have HRb := Lib.hid (HRa.out.ext hb)
                clear hb HRa HR HG1
                go_wp2_with fail
                refine (aget_all HRb.out.b (HL.out.ext HRb.out.a.wb.be) (4 * (k : Int) + (i : Int))).mono ?_
                rintro e wc ⟨rfl, hb⟩
                have HRc := Lib.hid (HRb.out.ext hb)
                clear hb HRb
                go_wp2_with fail
                go_roundg (4 - (i + 1))
                case measure => have := HII.out; omega
                case rel => exact ⟨i + 1, by go_num, by have := HII.out; omega, HRc⟩
              · have ek : decide ((i : Int) < 4) = false := by simp; omega
                have ek2 : decide (i < 4) = false := by simpa using hlt
                clear hi' hlt
                go_wp2_with fail
                go_roundg (M.ng - (k + 1))
                case measure => have := HLT.out; omega
                case rel => exact ⟨k + 1, by go_num, by have := HLT.out; omega, HR⟩
          · have ek : decide ((k : Int) < c.gr) = false := by have := HNG.out; simp; omega
            clear hk hlt
            go_wp2_with fail
            refine (HAW.out _ HR.out.a.wb.be).mono ?_
            rintro e w9 ⟨rfl, hb⟩
            have HB9 := Lib.hid (ext_trans HR.out.a.wb.be hb)
            clear hb
            go_wp2_with fail
            go_ret
            exact ⟨rfl, HB9.out⟩
      · dsimp only at f1
        have HK := Lib.hid (HKL.out.2.2 hk)
        have hd := HK.out.1
        have hM := HK.out.2
        subst hd
        subst hM
        have d17 : (d1 == 17) = false := by have := HKL.out.1; simpa using this
        clear hk HKL
        go_wp2_with fail
        clear x0 x1 x2 x3 x4 x5 x6 xl t0 t1 t2 t3 t4 t5 t6 t7 t8 t9 t10 hl1
        go_loopg [17] M.ng (fun g s17 wr => ∃ k : Nat, s17 = .int .i64 k ∧ k + g = M.ng ∧ Hid (Tr w wr lo hi p lo2 lo3 p2 hi3 p3 M1 M M1 c A B C D l ws os ds c1 c2 c3 c4))
        case atStart => exact ⟨0, rfl, by omega, HT⟩
        case round =>
          obtain ⟨k, rfl, hk, HR⟩ := hrel
          obtain ⟨t0, t1, t2, t3, t4, t5, t6, t7, t8, t9, t10⟩ := eleven_at HR.out.a.wb.box
          have hl1 := lt_of HR.out.a.wb.box
          by_cases hlt : k < M.ng
          · have ek : decide ((k : Int) < c.gr) = true := by have := HNG.out; simp; omega
            have HLT := Lib.hid (And.intro hk hlt)
            have hk16 : (k : Int) ≤ 16 := by have := HNG.out; omega
            have HO1 := aown_all HR.out.a.mc (k : Int)
            have HOE := True.intro
            have HO1 := Lib.hid HO1
            clear hk hlt
            go_wp2_with fail
            refine HO1.out.mono ?_
            rintro e wa ⟨rfl, hb⟩
            have HRa := Lib.hid (HR.out.ext hb)
            clear hb t0 t1 t2 t3 t4 t5 t6 t7 t8 t9 t10 hl1
            go_wp2_with fail
            refine (aown_all HRa.out.d (k : Int)).mono ?_
            rintro e wb ⟨rfl, hb⟩
            have HRb := Lib.hid (HRa.out.ext hb)
            clear hb HRa HR HO1
            go_wp2_with fail
            refine (aown_all HRb.out.b (k : Int)).mono ?_
            rintro e wc ⟨rfl, hb⟩
            have HRc := Lib.hid (HRb.out.ext hb)
            clear hb HRb
            go_wp2_with fail
            go_loopg [24] 4 (fun g s24 wr => ∃ i : Nat, s24 = .int .i64 i ∧ i + g = 4 ∧ Hid (Tr w wr lo hi p lo2 lo3 p2 hi3 p3 M1 M M1 c A B C D l ws os ds c1 c2 c3 c4))
            case atStart => exact ⟨0, rfl, by omega, HRc⟩
            case round =>
              obtain ⟨i, rfl, hi', HR⟩ := hrel
              by_cases hlt : i < 4
              · have ek : decide ((i : Int) < 4) = true := by simp; omega
                have ek2 : decide (i < 4) = true := by simpa using hlt
                have HII := Lib.hid (And.intro hi' hlt)
                have hi4 : (i : Int) ≤ 4 := by omega
                have HG1 := aget_all HR.out.a.mc (HL.out.ext HR.out.a.wb.be) (4 * (k : Int) + (i : Int))
                have HGE := True.intro
                have HG1 := Lib.hid HG1
                clear hi' hlt
                go_wp2_with fail
                refine HG1.out.mono ?_
                rintro e wa ⟨rfl, hb⟩
                have HRa := Lib.hid (HR.out.ext hb)
                clear hb
                go_wp2_with fail
                refine (aget_all HRa.out.d (HL.out.ext HRa.out.a.wb.be) (4 * (k : Int) + (i : Int))).mono ?_
                rintro e wb ⟨rfl, hb⟩
                have HRb := Lib.hid (HRa.out.ext hb)
                clear hb HRa HR HG1
                go_wp2_with fail
                refine (aget_all HRb.out.b (HL.out.ext HRb.out.a.wb.be) (4 * (k : Int) + (i : Int))).mono ?_
                rintro e wc ⟨rfl, hb⟩
                have HRc := Lib.hid (HRb.out.ext hb)
                clear hb HRb
                go_wp2_with fail
                go_roundg (4 - (i + 1))
                case measure => have := HII.out; omega
                case rel => exact ⟨i + 1, by go_num, by have := HII.out; omega, HRc⟩
              · have ek : decide ((i : Int) < 4) = false := by simp; omega
                have ek2 : decide (i < 4) = false := by simpa using hlt
                clear hi' hlt
                go_wp2_with fail
                go_roundg (M.ng - (k + 1))
                case measure => have := HLT.out; omega
                case rel => exact ⟨k + 1, by go_num, by have := HLT.out; omega, HR⟩
          · have ek : decide ((k : Int) < c.gr) = false := by have := HNG.out; simp; omega
            clear hk hlt
            go_wp2_with fail
            refine (HAW.out _ HR.out.a.wb.be).mono ?_
            rintro e w9 ⟨rfl, hb⟩
            have HB9 := Lib.hid (ext_trans HR.out.a.wb.be hb)
            clear hb
            go_wp2_with fail
            go_ret
            exact ⟨rfl, HB9.out⟩
      · dsimp only at f1 f2
        have HK := Lib.hid (HKL.out.2.2 hk)
        have hd := HK.out.1
        have hM := HK.out.2
        subst hd
        subst hM
        have d17 : (d1 == 17) = false := by have := HKL.out.1; simpa using this
        clear hk HKL
        go_wp2_with fail
        clear x0 x1 x2 x3 x4 x5 x6 xl t0 t1 t2 t3 t4 t5 t6 t7 t8 t9 t10 hl1
        go_loopg [17] M.ng (fun g s17 wr => ∃ k : Nat, s17 = .int .i64 k ∧ k + g = M.ng ∧ Hid (Tr w wr lo hi p lo2 lo3 p2 hi3 p3 M1 M M1 c A B C D l ws os ds c1 c2 c3 c4))
        case atStart => exact ⟨0, rfl, by omega, HT⟩
        case round =>
          obtain ⟨k, rfl, hk, HR⟩ := hrel
          obtain ⟨t0, t1, t2, t3, t4, t5, t6, t7, t8, t9, t10⟩ := eleven_at HR.out.a.wb.box
          have hl1 := lt_of HR.out.a.wb.box
          by_cases hlt : k < M.ng
          · have ek : decide ((k : Int) < c.gr) = true := by have := HNG.out; simp; omega
            have HLT := Lib.hid (And.intro hk hlt)
            have hk16 : (k : Int) ≤ 16 := by have := HNG.out; omega
            have HO1 := aown_all HR.out.a.mc (k : Int)
            have HOE := True.intro
            have HO1 := Lib.hid HO1
            clear hk hlt
            go_wp2_with fail
            refine HO1.out.mono ?_
            rintro e wa ⟨rfl, hb⟩
            have HRa := Lib.hid (HR.out.ext hb)
            clear hb t0 t1 t2 t3 t4 t5 t6 t7 t8 t9 t10 hl1
            go_wp2_with fail
            refine (aown_all HRa.out.d (k : Int)).mono ?_
            rintro e wb ⟨rfl, hb⟩
            have HRb := Lib.hid (HRa.out.ext hb)
            clear hb HRa HR HO1
            go_wp2_with fail
            refine (aown_all HRb.out.b (k : Int)).mono ?_
            rintro e wc ⟨rfl, hb⟩
            have HRc := Lib.hid (HRb.out.ext hb)
            clear hb HRb
            go_wp2_with fail
            go_loopg [24] 4 (fun g s24 wr => ∃ i : Nat, s24 = .int .i64 i ∧ i + g = 4 ∧ Hid (Tr w wr lo hi p lo2 lo3 p2 hi3 p3 M1 M M1 c A B C D l ws os ds c1 c2 c3 c4))
            case atStart => exact ⟨0, rfl, by omega, HRc⟩
            case round =>
              obtain ⟨i, rfl, hi', HR⟩ := hrel
              by_cases hlt : i < 4
              · have ek : decide ((i : Int) < 4) = true := by simp; omega
                have ek2 : decide (i < 4) = true := by simpa using hlt
                have HII := Lib.hid (And.intro hi' hlt)
                have hi4 : (i : Int) ≤ 4 := by omega
                have HG1 := aget_all HR.out.a.mc (HL.out.ext HR.out.a.wb.be) (4 * (k : Int) + (i : Int))
                have HGE := True.intro
                have HG1 := Lib.hid HG1
                clear hi' hlt
                go_wp2_with fail
                refine HG1.out.mono ?_
                rintro e wa ⟨rfl, hb⟩
                have HRa := Lib.hid (HR.out.ext hb)
                clear hb
                go_wp2_with fail
                refine (aget_all HRa.out.d (HL.out.ext HRa.out.a.wb.be) (4 * (k : Int) + (i : Int))).mono ?_
                rintro e wb ⟨rfl, hb⟩
                have HRb := Lib.hid (HRa.out.ext hb)
                clear hb HRa HR HG1
                go_wp2_with fail
                refine (aget_all HRb.out.b (HL.out.ext HRb.out.a.wb.be) (4 * (k : Int) + (i : Int))).mono ?_
                rintro e wc ⟨rfl, hb⟩
                have HRc := Lib.hid (HRb.out.ext hb)
                clear hb HRb
                go_wp2_with fail
                go_roundg (4 - (i + 1))
                case measure => have := HII.out; omega
                case rel => exact ⟨i + 1, by go_num, by have := HII.out; omega, HRc⟩
              · have ek : decide ((i : Int) < 4) = false := by simp; omega
                have ek2 : decide (i < 4) = false := by simpa using hlt
                clear hi' hlt
                go_wp2_with fail
                go_roundg (M.ng - (k + 1))
                case measure => have := HLT.out; omega
                case rel => exact ⟨k + 1, by go_num, by have := HLT.out; omega, HR⟩
          · have ek : decide ((k : Int) < c.gr) = false := by have := HNG.out; simp; omega
            clear hk hlt
            go_wp2_with fail
            refine (HAW.out _ HR.out.a.wb.be).mono ?_
            rintro e w9 ⟨rfl, hb⟩
            have HB9 := Lib.hid (ext_trans HR.out.a.wb.be hb)
            clear hb
            go_wp2_with fail
            go_ret
            exact ⟨rfl, HB9.out⟩
      · dsimp only at f1 f2 f3
        have HK := Lib.hid (HKL.out.2.2 hk)
        have hd := HK.out.1
        have hM := HK.out.2
        subst hd
        subst hM
        have d17 : (d1 == 17) = false := by have := HKL.out.1; simpa using this
        clear hk HKL
        go_wp2_with fail
        clear x0 x1 x2 x3 x4 x5 x6 xl t0 t1 t2 t3 t4 t5 t6 t7 t8 t9 t10 hl1
        go_loopg [17] M.ng (fun g s17 wr => ∃ k : Nat, s17 = .int .i64 k ∧ k + g = M.ng ∧ Hid (Tr w wr lo hi p lo2 lo3 p2 hi3 p3 M1 M M1 c A B C D l ws os ds c1 c2 c3 c4))
        case atStart => exact ⟨0, rfl, by omega, HT⟩
        case round =>
          obtain ⟨k, rfl, hk, HR⟩ := hrel
          obtain ⟨t0, t1, t2, t3, t4, t5, t6, t7, t8, t9, t10⟩ := eleven_at HR.out.a.wb.box
          have hl1 := lt_of HR.out.a.wb.box
          by_cases hlt : k < M.ng
          · have ek : decide ((k : Int) < c.gr) = true := by have := HNG.out; simp; omega
            have HLT := Lib.hid (And.intro hk hlt)
            have hk16 : (k : Int) ≤ 16 := by have := HNG.out; omega
            have HO1 := aown_all HR.out.a.mc (k : Int)
            have HOE := True.intro
            have HO1 := Lib.hid HO1
            clear hk hlt
            go_wp2_with fail
            refine HO1.out.mono ?_
            rintro e wa ⟨rfl, hb⟩
            have HRa := Lib.hid (HR.out.ext hb)
            clear hb t0 t1 t2 t3 t4 t5 t6 t7 t8 t9 t10 hl1
            go_wp2_with fail
            refine (aown_all HRa.out.d (k : Int)).mono ?_
            rintro e wb ⟨rfl, hb⟩
            have HRb := Lib.hid (HRa.out.ext hb)
            clear hb HRa HR HO1
            go_wp2_with fail
            refine (aown_all HRb.out.b (k : Int)).mono ?_
            rintro e wc ⟨rfl, hb⟩
            have HRc := Lib.hid (HRb.out.ext hb)
            clear hb HRb
            go_wp2_with fail
            go_loopg [24] 4 (fun g s24 wr => ∃ i : Nat, s24 = .int .i64 i ∧ i + g = 4 ∧ Hid (Tr w wr lo hi p lo2 lo3 p2 hi3 p3 M1 M M1 c A B C D l ws os ds c1 c2 c3 c4))
            case atStart => exact ⟨0, rfl, by omega, HRc⟩
            case round =>
              obtain ⟨i, rfl, hi', HR⟩ := hrel
              by_cases hlt : i < 4
              · have ek : decide ((i : Int) < 4) = true := by simp; omega
                have ek2 : decide (i < 4) = true := by simpa using hlt
                have HII := Lib.hid (And.intro hi' hlt)
                have hi4 : (i : Int) ≤ 4 := by omega
                have HG1 := aget_all HR.out.a.mc (HL.out.ext HR.out.a.wb.be) (4 * (k : Int) + (i : Int))
                have HGE := True.intro
                have HG1 := Lib.hid HG1
                clear hi' hlt
                go_wp2_with fail
                refine HG1.out.mono ?_
                rintro e wa ⟨rfl, hb⟩
                have HRa := Lib.hid (HR.out.ext hb)
                clear hb
                go_wp2_with fail
                refine (aget_all HRa.out.d (HL.out.ext HRa.out.a.wb.be) (4 * (k : Int) + (i : Int))).mono ?_
                rintro e wb ⟨rfl, hb⟩
                have HRb := Lib.hid (HRa.out.ext hb)
                clear hb HRa HR HG1
                go_wp2_with fail
                refine (aget_all HRb.out.b (HL.out.ext HRb.out.a.wb.be) (4 * (k : Int) + (i : Int))).mono ?_
                rintro e wc ⟨rfl, hb⟩
                have HRc := Lib.hid (HRb.out.ext hb)
                clear hb HRb
                go_wp2_with fail
                go_roundg (4 - (i + 1))
                case measure => have := HII.out; omega
                case rel => exact ⟨i + 1, by go_num, by have := HII.out; omega, HRc⟩
              · have ek : decide ((i : Int) < 4) = false := by simp; omega
                have ek2 : decide (i < 4) = false := by simpa using hlt
                clear hi' hlt
                go_wp2_with fail
                go_roundg (M.ng - (k + 1))
                case measure => have := HLT.out; omega
                case rel => exact ⟨k + 1, by go_num, by have := HLT.out; omega, HR⟩
          · have ek : decide ((k : Int) < c.gr) = false := by have := HNG.out; simp; omega
            clear hk hlt
            go_wp2_with fail
            refine (HAW.out _ HR.out.a.wb.be).mono ?_
            rintro e w9 ⟨rfl, hb⟩
            have HB9 := Lib.hid (ext_trans HR.out.a.wb.be hb)
            clear hb
            go_wp2_with fail
            go_ret
            exact ⟨rfl, HB9.out⟩
end
end Go.Proofs.YtkobeajbiendlaaDoor
