/- What this text holds: the law AtomSteps, walked. Conditions: the tables of limits and of ops hold what their initialisers lay. -/
import Derived.Test.YtkobeajbiendlaaDoorFw11B
import Derived.Test.YtkobeajbiendlaaDoorOpen11B
import Derived.Test.YtkobeajbiendlaaDoorAtmU
import Derived.Test.YtkobeajbiendlaaDoorRf11F
import Derived.Test.YtkobeajbiendlaaDoorRf11G
import Derived.Test.YtkobeajbiendlaaDoorRf11H
import Derived.Test.YtkobeajbiendlaaDoorLw11
namespace Go.Proofs.YtkobeajbiendlaaDoor
open Go.RowKit

/-- A world, a machine of it, and the document's machine: told by the same plain words. -/
structure Ss (w wr : World) (lo hi p lo2 hi2 q bL bO bW cl co cw : Nat) (P : Nat → Value) (M : Ma) (c : Cfg) (A B C D : Option Addr) (l : List Pr) (ws os ds : List Int) (c1 c2 c3 c4 : Nat) : Prop where
  a : Lw w wr lo hi p M c A B C D l ws os ds c1 c2 c3 c4
  d : Dk wr lo2 hi2 q bL bO bW cl co cw P M
  r : M.Rng
  ap : hi ≤ lo2
section
variable {w a b : World} {lo hi p lo2 hi2 q bL bO bW cl co cw : Nat} {P : Nat → Value} {M : Ma} {c : Cfg} {A B C D : Option Addr} {l : List Pr} {ws os ds : List Int} {c1 c2 c3 c4 : Nat}
theorem Ss.ext (h : Ss w a lo hi p lo2 hi2 q bL bO bW cl co cw P M c A B C D l ws os ds c1 c2 c3 c4) (hb : Below a.heap.size a b) : Ss w b lo hi p lo2 hi2 q bL bO bW cl co cw P M c A B C D l ws os ds c1 c2 c3 c4 := ⟨h.a.ext hb, h.d.ext hb, h.r, h.ap⟩
theorem Ss.step (h : Ss w a lo hi p lo2 hi2 q bL bO bW cl co cw P M c A B C D l ws os ds c1 c2 c3 c4) (x : Int) (y : Bool) (hm : Mc b lo hi p (M.stepA x y).2.2) (hd : Dk b lo2 hi2 q bL bO bW cl co cw P (M.stepA x y).2.2) (hr : Rg lo hi2 a b) : Ss w b lo hi p lo2 hi2 q bL bO bW cl co cw P (M.stepA x y).2.2 c A B C D l ws os ds c1 c2 c3 c4 :=
  ⟨⟨h.a.wb.rg hr h.a.hl (Nat.le_of_lt h.a.hl), hm, h.a.gd.stepA x y, (stepA_c M x y).trans h.a.hc, h.a.hl⟩, hd, h.r.stepA h.a.gd x y, h.ap⟩
end
section
variable (c : Cfg) (A B C D E : Option Addr) (l : List Pr) (ws os ds : List Int) (c1 c2 c3 c4 c5 : Nat) (tl : List (Int × Bool)) (w : World)
set_option maxRecDepth 100000 in
set_option maxHeartbeats 8000000 in
theorem atomsteps (hL : Lims w) (hO : Ops w) (hA : SlR w A l) (hm : l.length ≤ maxLen) (hB : SlI w B ws) (hC : SlI w C os) (hD : SlI w D ds) (hE : SlT w E tl) :
    Calls Tryd.prog 8 #[.agg #[.int .i64 c.co, .int .i64 c.gr, .int .i64 c.se, .int .i64 c.wa, .int .i64 c.de, .int .i64 c.en, .int .i64 c.ba, .slice A l.length c1, .slice B ws.length c2, .slice C os.length c3, .slice D ds.length c4], .slice E tl.length c5] w fun e w' => e = .returned (.bool true) ∧ Below w.heap.size w w' := by
  have HN := Lib.hid (Wb.new c A B C D l ws os ds c1 c2 c3 c4 w)
  have HFW := fun (W : World) (hb : Below w.heap.size w W) => few_any c A B C D l ws os ds c1 c2 c3 c4 W (hA.ext hb) hm
  have HWR := fun (W : World) (hb : Below w.heap.size w W) hf => wrong_any c A B C D l ws os ds c1 c2 c3 c4 W (hA.ext hb) (hB.ext hb) (hC.ext hb) hf
  have HMD := Lib.hid (fun (W : World) (hb : Below w.heap.size w W) => amade c A B C D l ws os ds c1 c2 c3 c4 W (hL.ext hb) (hO.ext hb) (hA.ext hb) (hB.ext hb) (hC.ext hb) (hD.ext hb))
  have HAW := Lib.hid (fun (W : World) (hb : Below w.heap.size w W) => awake11 W (hL.ext hb) (hO.ext hb))
  have HPL := Lib.hid (fun (W : World) (hb : Below w.heap.size w W) hg hn => dplain_any c A B C D l ws os ds c1 c2 c3 c4 W (hA.ext hb) (hB.ext hb) (hC.ext hb) (hD.ext hb) hg hn)
  have HL := Lib.hid hL
  have HE := Lib.hid hE
  clear hL hO hA hm hB hC hD hE
  cases hfw : fewB l ws os ds
  · rw [hfw] at HFW
    have HFW := Lib.hid HFW
    clear hfw HWR HMD
    go_enter Tryd.func8, Tryd.ntmps8
    obtain ⟨t0, t1, t2, t3, t4, t5, t6, t7, t8, t9, t10⟩ := eleven_at HN.out.box
    go_wp2_with fail
    refine (HFW.out _ HN.out.be).mono ?_
    rintro e w1 ⟨rfl, hb⟩
    have HN1 := Lib.hid (HN.out.ext hb)
    clear hb
    go_wp2_with fail
    refine (HAW.out _ HN1.out.be).mono ?_
    rintro e w2 ⟨rfl, hb⟩
    have HB2 := Lib.hid (ext_trans HN1.out.be hb)
    clear hb
    go_wp2_with fail
    go_ret
    exact ⟨rfl, HB2.out⟩
  rw [hfw] at HFW
  have HFW := Lib.hid HFW
  have HWR := Lib.hid (fun (W : World) (hb : Below w.heap.size w W) => HWR W hb (fewB_len hfw).2.2.2.2)
  have HFL := Lib.hid (fewB_len hfw)
  clear hfw
  by_cases hn : 80 < tl.length
  · have en : decide ((tl.length : Int) > 80) = true := by simp; omega
    clear hn
    go_enter Tryd.func8, Tryd.ntmps8
    obtain ⟨t0, t1, t2, t3, t4, t5, t6, t7, t8, t9, t10⟩ := eleven_at HN.out.box
    go_wp2_with fail
    refine (HFW.out _ HN.out.be).mono ?_
    rintro e w1 ⟨rfl, hb⟩
    have HN1 := Lib.hid (HN.out.ext hb)
    clear hb
    go_wp2_with fail
    refine (HAW.out _ HN1.out.be).mono ?_
    rintro e w2 ⟨rfl, hb⟩
    have HB2 := Lib.hid (ext_trans HN1.out.be hb)
    clear hb
    go_wp2_with fail
    go_ret
    exact ⟨rfl, HB2.out⟩
  have en : decide ((tl.length : Int) > 80) = false := by simp; omega
  have H80 := Lib.hid (show tl.length ≤ 80 by omega)
  clear hn
  by_cases hw : newE11 c l ws os ds = 0
  case neg =>
    have ew : (newE11 c l ws os ds != 0) = true := by simpa using hw
    have HW := Lib.hid hw
    clear hw HPL
    go_enter Tryd.func8, Tryd.ntmps8
    obtain ⟨t0, t1, t2, t3, t4, t5, t6, t7, t8, t9, t10⟩ := eleven_at HN.out.box
    go_wp2_with fail
    refine (HFW.out _ HN.out.be).mono ?_
    rintro e w1 ⟨rfl, hb⟩
    have HN1 := Lib.hid (HN.out.ext hb)
    clear hb t0 t1 t2 t3 t4 t5 t6 t7 t8 t9 t10
    obtain ⟨t0, t1, t2, t3, t4, t5, t6, t7, t8, t9, t10⟩ := eleven_at HN1.out.box
    have hl1 := lt_of HN1.out.box
    go_wp2_with fail
    refine (HMD.out _ HN1.out.be).mono ?_
    rintro e w2 ⟨⟨h0, _⟩ | ⟨h0, rfl⟩, hb⟩
    case inl => exact absurd h0 HW.out
    have HN2 := Lib.hid (HN1.out.ext hb)
    clear hb h0 t0 t1 t2 t3 t4 t5 t6 t7 t8 t9 t10 hl1 HMD
    obtain ⟨t0, t1, t2, t3, t4, t5, t6, t7, t8, t9, t10⟩ := eleven_at HN2.out.box
    have hl1 := lt_of HN2.out.box
    go_wp2_with fail
    refine (HWR.out _ HN2.out.be).mono ?_
    rintro e w3 ⟨rfl, hb⟩
    have HN3 := Lib.hid (HN2.out.ext hb)
    clear hb t0 t1 t2 t3 t4 t5 t6 t7 t8 t9 t10 hl1 HW HWR
    generalize newE11 c l ws os ds = nw at *
    have ee : (nw == nw) = true := by simp
    go_wp2_with fail
    refine (HAW.out _ HN3.out.be).mono ?_
    rintro e w4 ⟨rfl, hb⟩
    have HB2 := Lib.hid (ext_trans HN3.out.be hb)
    clear hb
    go_wp2_with fail
    go_ret
    exact ⟨rfl, HB2.out⟩
  have HWR := HWR.out
  rw [hw] at HWR
  have HWR := Lib.hid HWR
  have HW := Lib.hid hw
  clear hw
  go_enter Tryd.func8, Tryd.ntmps8
  obtain ⟨t0, t1, t2, t3, t4, t5, t6, t7, t8, t9, t10⟩ := eleven_at HN.out.box
  go_wp2_with fail
  refine (HFW.out _ HN.out.be).mono ?_
  rintro e w1 ⟨rfl, hb⟩
  have HN1 := Lib.hid (HN.out.ext hb)
  clear hb t0 t1 t2 t3 t4 t5 t6 t7 t8 t9 t10
  obtain ⟨t0, t1, t2, t3, t4, t5, t6, t7, t8, t9, t10⟩ := eleven_at HN1.out.box
  have hl1 := lt_of HN1.out.box
  go_wp2_with fail
  refine (HMD.out _ HN1.out.be).mono ?_
  rintro e w2 ⟨⟨h0, p, lo, hi, rfl, hM, hlo⟩ | ⟨h0, _⟩, hb⟩
  case inr => exact absurd HW.out h0
  have HP := Lib.hid (show Lw w w2 lo hi p (maNew c l ws os ds l.length) c A B C D l ws os ds c1 c2 c3 c4 from ⟨HN1.out.ext hb, hM, Ma.Good.new h0, rfl, Nat.lt_of_lt_of_le hl1 hlo⟩)
  have HGP := Lib.hid (show ∀ i, i < l.length → (atR l i).ps.length ≤ 1000 from fun i hi => by
    have hn := newE11_len h0
    have hgd := Ma.Good.new h0
    have h2 := (hgd.2 i (by show i < c.co.toNat; omega)).1.1
    have ep : ((maNew c l ws os ds l.length).se i).ps = (atR l i).ps := by
      show (seNew l ws l.length i).ps = _
      unfold seNew
      rw [if_pos hi]
      rfl
    rw [ep] at h2
    omega)
  have HRN := Lib.hid (Ma.Rng.new h0)
  clear h0 hM hlo hb t0 t1 t2 t3 t4 t5 t6 t7 t8 t9 t10 hl1 HMD
  obtain ⟨t0, t1, t2, t3, t4, t5, t6, t7, t8, t9, t10⟩ := eleven_at HP.out.wb.box
  have hl1 := lt_of HP.out.wb.box
  go_wp2_with fail
  refine (HWR.out _ HP.out.wb.be).mono ?_
  rintro e w3 ⟨rfl, hb⟩
  have HP3 := Lib.hid (HP.out.ext hb)
  clear hb t0 t1 t2 t3 t4 t5 t6 t7 t8 t9 t10 hl1 HWR
  obtain ⟨t0, t1, t2, t3, t4, t5, t6, t7, t8, t9, t10⟩ := eleven_at HP3.out.wb.box
  have hl1 := lt_of HP3.out.wb.box
  go_wp2_with fail
  refine (HPL.out _ HP3.out.wb.be HGP.out HW.out).mono ?_
  rintro e w4 ⟨lo2, q, bL, bO, bW, cl, co, cw, P, rfl, hd, hlo2, hb⟩
  have HS := Lib.hid (show Ss w w4 lo hi p lo2 w4.heap.size q bL bO bW cl co cw P (maNew c l ws os ds l.length) c A B C D l ws os ds c1 c2 c3 c4 from ⟨HP3.out.ext hb, hd, HRN.out, Nat.le_trans HP3.out.mc.sz.1 hlo2⟩)
  clear hd hlo2 hb t0 t1 t2 t3 t4 t5 t6 t7 t8 t9 t10 hl1 HPL HP3 HP HGP HRN HFW HN HN1 HW
  generalize maNew c l ws os ds l.length = M0 at *
  generalize w4.heap.size = hi2 at HS
  go_wp2_with fail
  go_loopg [9] tl.length (fun g s9 wr => ∃ (k : Nat) (M : Ma), s9 = .int .i64 k ∧ k + g = tl.length ∧ Hid (Ss w wr lo hi p lo2 hi2 q bL bO bW cl co cw P M c A B C D l ws os ds c1 c2 c3 c4))
  case atStart => exact ⟨0, M0, rfl, by omega, HS⟩
  case round =>
    obtain ⟨k, M, rfl, hk, HR⟩ := hrel
    have HSM := Lib.hid (dsame_any HR.out.a.mc HR.out.d HR.out.a.gd HR.out.r (HL.out.ext HR.out.a.wb.be))
    by_cases hlt : k < tl.length
    · have ek : decide ((k : Int) < (tl.length : Int)) = true := by simp; omega
      have ek2 : decide (k < tl.length) = true := by simpa using hlt
      obtain ⟨b, off, hEE, hbl, hcs⟩ := ((HE.out.ext HR.out.a.wb.be) (by omega))
      obtain ⟨y0, y1⟩ := hcs k hlt
      have hkl : (k : Int) < (tl.length : Int) := by omega
      have hk80 : (k : Int) ≤ 80 := by have := H80.out; omega
      have HLT := Lib.hid (And.intro hk hlt)
      subst hEE
      clear hcs hk hlt
      generalize atT tl k = tk at *
      obtain ⟨tx, tb⟩ := tk
      dsimp only at y0 y1
      go_wp2_with fail
      refine HSM.out.mono ?_
      rintro e w5 ⟨rfl, hb⟩
      have HR5 := Lib.hid (HR.out.ext hb)
      have z0 := (hb.cell (p := ⟨b, off + k * 2, none⟩) hbl).trans y0
      have z1 := (hb.cell (p := ⟨b, off + k * 2 + 1, none⟩) hbl).trans y1
      have hbl5 := Nat.lt_of_lt_of_le hbl hb.size
      have HST := Lib.hid (dstep2_any HR5.out.a.mc HR5.out.d HR5.out.a.gd HR5.out.r (HL.out.ext HR5.out.a.wb.be) HR5.out.ap tx tb)
      clear hb y0 y1 hbl
      go_wp2_with fail
      refine HST.out.mono ?_
      rintro e w6 ⟨rfl, hm6, hd6, hr6⟩
      have HR6 := Lib.hid (HR5.out.step tx tb hm6 hd6 hr6)
      clear hm6 hd6 hr6 z0 z1 hbl5
      go_wp2_with fail
      go_roundg (tl.length - (k + 1))
      case measure => have := HLT.out; omega
      case rel => exact ⟨k + 1, _, by go_num, by have := HLT.out; omega, HR6⟩
    · have ek : decide ((k : Int) < (tl.length : Int)) = false := by simp; omega
      have ek2 : decide (k < tl.length) = false := by simpa using hlt
      clear hk hlt
      go_wp2_with fail
      refine HSM.out.mono ?_
      rintro e w5 ⟨rfl, hb⟩
      have HR5 := Lib.hid (HR.out.ext hb)
      clear hb
      go_wp2_with fail
      refine (HAW.out _ HR5.out.a.wb.be).mono ?_
      rintro e w6 ⟨rfl, hb⟩
      have HB6 := Lib.hid (ext_trans HR5.out.a.wb.be hb)
      clear hb
      go_wp2_with fail
      go_ret
      exact ⟨rfl, HB6.out⟩
end

end Go.Proofs.YtkobeajbiendlaaDoor
