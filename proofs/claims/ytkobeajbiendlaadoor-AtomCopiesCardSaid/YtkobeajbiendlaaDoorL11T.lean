/- What this text holds: the law AtomCopies, walked. Conditions: the tables of limits and of ops hold what their initialisers lay. -/
import Derived.Test.YtkobeajbiendlaaDoorCp11B
import Derived.Test.YtkobeajbiendlaaDoorOpen11B
import Derived.Test.YtkobeajbiendlaaDoorRf11F
import Derived.Test.YtkobeajbiendlaaDoorRf11G
import Derived.Test.YtkobeajbiendlaaDoorRf11H
import Derived.StillTailTactics
import Derived.Deep.CutRange
import Derived.Deep.CutBlock
namespace Go.Proofs.YtkobeajbiendlaaDoor
open Go.RowKit

theorem info_prog11 : (Tryd.prog.info? 22).map (fun i => (i.zero, i.size, i.bytes)) = some (some (.slice none 0 0), 1, 24) := by kernel_rfl
section
variable {w wr : World} {cb : Nat} {c : Cfg} {A B C D A2 A3 A4 A5 : Option Addr} {l : List Pr} {ws os ds : List Int} {c1 c2 c3 c4 c5 c6 c7 c8 : Nat} {Q : Nat → Option Addr × Nat}
/-- The machine of the copy. -/
theorem Cw.make (h : Cw w wr cb l.length c A B C D l ws os ds c1 c2 c3 c4 A2 c5 Q (.slice A3 ws.length c6) (.slice A4 os.length c7) (.slice A5 ds.length c8) ws os ds) (hL : Lims wr) (hO : Ops wr) (h0 : newE11 c l ws os ds = 0) (h1 : 0 < l.length) (h2 : 0 < ws.length) (h3 : 0 < os.length) (h4 : 0 < ds.length) :
    Calls Tryd.prog 31 #[.agg #[.int .i64 c.co, .int .i64 c.gr, .int .i64 c.se, .int .i64 c.wa, .int .i64 c.de, .int .i64 c.en, .int .i64 c.ba, .slice A2 l.length c5, .slice A3 ws.length c6, .slice A4 os.length c7, .slice A5 ds.length c8]] wr fun e w' =>
      ∃ p lo hi bP bB bC bD, e = .returned (.tuple #[.pointer (some ⟨p, 0, none⟩), .int .i64 0]) ∧ wr.heap.size ≤ lo ∧ Dv w w' lo hi p cb bP bB bC bD (maNew c l ws os ds l.length) c A B C D l ws os ds c1 c2 c3 c4 c5 c6 c7 c8 Q true := by
  have hm := amade c A2 A3 A4 A5 (prs Q l) ws os ds c5 c6 c7 c8 wr hL hO h.slr (row_sli h.r2) (row_sli h.r3) (row_sli h.r4)
  rw [prs_len] at hm
  refine hm.mono ?_
  rintro e w' ⟨⟨h0', p, lo, hi, rfl, hM, hlo⟩ | ⟨h0', _⟩, hb⟩
  · rw [maNew_prs] at hM
    obtain ⟨bP, bB, bC, bD, _, _, _, _, hd⟩ := h.made hb hM (Ma.Good.new h0) rfl hlo h1 h2 h3 h4
    exact ⟨p, lo, hi, bP, bB, bC, bD, rfl, hlo, hd⟩
  · rw [newE11_prs] at h0'
    exact absurd h0 h0'
end
/-- A world, a machine, and the document's machine: told by the same plain words. -/
structure Sq (w wr : World) (lo hi p lo2 hi2 q bL bO bW cl co cw : Nat) (P : Nat → Value) (M : Ma) (c : Cfg) (A B C D : Option Addr) (l : List Pr) (ws os ds : List Int) (c1 c2 c3 c4 : Nat) : Prop where
  a : Lw w wr lo hi p M c A B C D l ws os ds c1 c2 c3 c4
  d : Dk wr lo2 hi2 q bL bO bW cl co cw P M
  r : M.Rng
  ap : hi ≤ lo2
/-- The machine that goes on, its copy and the document's machine, which stay. -/
structure Sv (w wr : World) (lo hi p lo2 hi2 q bL bO bW cl co cw lo3 hi3 p3 : Nat) (P : Nat → Value) (M1 M : Ma) (c : Cfg) (A B C D : Option Addr) (l : List Pr) (ws os ds : List Int) (c1 c2 c3 c4 : Nat) : Prop where
  a : Lw w wr lo hi p M1 c A B C D l ws os ds c1 c2 c3 c4
  d : Dk wr lo2 hi2 q bL bO bW cl co cw P M
  m : Mc wr lo3 hi3 p3 M
  g : M.Good
  r : M.Rng
  ap : hi ≤ lo2
  ap3 : hi ≤ lo3
section
variable {w a b : World} {lo hi p lo2 hi2 q bL bO bW cl co cw lo3 hi3 p3 : Nat} {P : Nat → Value} {M M1 : Ma} {c : Cfg} {A B C D : Option Addr} {l : List Pr} {ws os ds : List Int} {c1 c2 c3 c4 : Nat}
theorem Sq.ext (h : Sq w a lo hi p lo2 hi2 q bL bO bW cl co cw P M c A B C D l ws os ds c1 c2 c3 c4) (hb : Below a.heap.size a b) : Sq w b lo hi p lo2 hi2 q bL bO bW cl co cw P M c A B C D l ws os ds c1 c2 c3 c4 := ⟨h.a.ext hb, h.d.ext hb, h.r, h.ap⟩
theorem Sq.step (h : Sq w a lo hi p lo2 hi2 q bL bO bW cl co cw P M c A B C D l ws os ds c1 c2 c3 c4) (x : Int) (y : Bool) (hm : Mc b lo hi p (M.stepA x y).2.2) (hd : Dk b lo2 hi2 q bL bO bW cl co cw P (M.stepA x y).2.2) (hr : Rg lo hi2 a b) : Sq w b lo hi p lo2 hi2 q bL bO bW cl co cw P (M.stepA x y).2.2 c A B C D l ws os ds c1 c2 c3 c4 :=
  ⟨⟨h.a.wb.rg hr h.a.hl (Nat.le_of_lt h.a.hl), hm, h.a.gd.stepA x y, (stepA_c M x y).trans h.a.hc, h.a.hl⟩, hd, h.r.stepA h.a.gd x y, h.ap⟩
theorem Sv.ext (h : Sv w a lo hi p lo2 hi2 q bL bO bW cl co cw lo3 hi3 p3 P M1 M c A B C D l ws os ds c1 c2 c3 c4) (hb : Below a.heap.size a b) : Sv w b lo hi p lo2 hi2 q bL bO bW cl co cw lo3 hi3 p3 P M1 M c A B C D l ws os ds c1 c2 c3 c4 := ⟨h.a.ext hb, h.d.ext hb, h.m.ext hb, h.g, h.r, h.ap, h.ap3⟩
theorem Sv.step (h : Sv w a lo hi p lo2 hi2 q bL bO bW cl co cw lo3 hi3 p3 P M1 M c A B C D l ws os ds c1 c2 c3 c4) (x : Int) (y : Bool) (hm : Mc b lo hi p (M1.stepA x y).2.2) (hr : Rg lo hi a b) : Sv w b lo hi p lo2 hi2 q bL bO bW cl co cw lo3 hi3 p3 P (M1.stepA x y).2.2 M c A B C D l ws os ds c1 c2 c3 c4 :=
  ⟨h.a.step hm (h.a.gd.stepA x y) (stepA_c M1 x y) hr, h.d.rg hr (.inr h.ap), h.m.rg hr (.inr h.ap3), h.g, h.r, h.ap, h.ap3⟩
end
section
variable (c : Cfg) (A B C D E F : Option Addr) (l : List Pr) (ws os ds : List Int) (c1 c2 c3 c4 ce cf : Nat) (tl nl : List (Int × Bool)) (w : World)
set_option maxRecDepth 100000 in
set_option maxHeartbeats 16000000 in
theorem atomcopies (hL : Lims w) (hO : Ops w) (hA : SlR w A l) (hm : l.length ≤ maxLen) (hB : SlI w B ws) (hC : SlI w C os) (hD : SlI w D ds) (hE : SlT w E tl) (hF : SlT w F nl) :
    Calls Tryd.prog 11 #[.agg #[.int .i64 c.co, .int .i64 c.gr, .int .i64 c.se, .int .i64 c.wa, .int .i64 c.de, .int .i64 c.en, .int .i64 c.ba, .slice A l.length c1, .slice B ws.length c2, .slice C os.length c3, .slice D ds.length c4], .slice E tl.length ce, .slice F nl.length cf] w fun e w' => e = .returned (.bool true) ∧ Below w.heap.size w w' := by
  have HN := Lib.hid (Wb.new c A B C D l ws os ds c1 c2 c3 c4 w)
  have HFW := fun (W : World) (hb : Below w.heap.size w W) => few_any c A B C D l ws os ds c1 c2 c3 c4 W (hA.ext hb) hm
  have HWR := fun (W : World) (hb : Below w.heap.size w W) hf => wrong_any c A B C D l ws os ds c1 c2 c3 c4 W (hA.ext hb) (hB.ext hb) (hC.ext hb) hf
  have HAW := Lib.hid (fun (W : World) (hb : Below w.heap.size w W) => awake11 W (hL.ext hb) (hO.ext hb))
  have HPL := Lib.hid (fun (W : World) (hb : Below w.heap.size w W) hg hn => dplain_any c A B C D l ws os ds c1 c2 c3 c4 W (hA.ext hb) (hB.ext hb) (hC.ext hb) (hD.ext hb) hg hn)
  have HL := Lib.hid hL
  have HO := Lib.hid hO
  have HA := Lib.hid hA
  have HB := Lib.hid hB
  have HC := Lib.hid hC
  have HD := Lib.hid hD
  have HE := Lib.hid hE
  have HF := Lib.hid hF
  clear hL hO hA hm hB hC hD hE hF
  cases hfw : fewB l ws os ds
  · rw [hfw] at HFW
    have HFW := Lib.hid HFW
    clear hfw HWR
    go_enter Tryd.func11, Tryd.ntmps11
    obtain ⟨t0, t1, t2, t3, t4, t5, t6, t7, t8, t9, t10⟩ := eleven_at HN.out.box
    go_wp2_with fail
    refine (HFW.out _ HN.out.be).mono ?_
    rintro e w1 ⟨rfl, hb⟩
    have HN1 := Lib.hid (HN.out.ext hb)
    clear hb
    go_wp2_with fail
    refine (HAW.out _ HN1.out.be).mono ?_
    rintro e w2 ⟨rfl, hb⟩
    have HB2 := Lib.hid (ext_trans HN1.out.be hb)
    clear hb
    go_wp2_with fail
    go_ret
    exact ⟨rfl, HB2.out⟩
  rw [hfw] at HFW
  have HFW := Lib.hid HFW
  have HWR := Lib.hid (fun (W : World) (hb : Below w.heap.size w W) => HWR W hb (fewB_len hfw).2.2.2.2)
  clear hfw
  by_cases hn : 60 < tl.length
  · have en : decide ((tl.length : Int) > 60) = true := by simp; omega
    clear hn
    go_enter Tryd.func11, Tryd.ntmps11
    obtain ⟨t0, t1, t2, t3, t4, t5, t6, t7, t8, t9, t10⟩ := eleven_at HN.out.box
    go_wp2_with fail
    refine (HFW.out _ HN.out.be).mono ?_
    rintro e w1 ⟨rfl, hb⟩
    have HN1 := Lib.hid (HN.out.ext hb)
    clear hb
    go_wp2_with fail
    refine (HAW.out _ HN1.out.be).mono ?_
    rintro e w2 ⟨rfl, hb⟩
    have HB2 := Lib.hid (ext_trans HN1.out.be hb)
    clear hb
    go_wp2_with fail
    go_ret
    exact ⟨rfl, HB2.out⟩
  have en : decide ((tl.length : Int) > 60) = false := by simp; omega
  have H60 := Lib.hid (show tl.length ≤ 60 by omega)
  clear hn
  by_cases hn : 60 < nl.length
  · have en2 : decide ((nl.length : Int) > 60) = true := by simp; omega
    clear hn
    go_enter Tryd.func11, Tryd.ntmps11
    obtain ⟨t0, t1, t2, t3, t4, t5, t6, t7, t8, t9, t10⟩ := eleven_at HN.out.box
    go_wp2_with fail
    refine (HFW.out _ HN.out.be).mono ?_
    rintro e w1 ⟨rfl, hb⟩
    have HN1 := Lib.hid (HN.out.ext hb)
    clear hb
    go_wp2_with fail
    refine (HAW.out _ HN1.out.be).mono ?_
    rintro e w2 ⟨rfl, hb⟩
    have HB2 := Lib.hid (ext_trans HN1.out.be hb)
    clear hb
    go_wp2_with fail
    go_ret
    exact ⟨rfl, HB2.out⟩
  have en2 : decide ((nl.length : Int) > 60) = false := by simp; omega
  have H602 := Lib.hid (show nl.length ≤ 60 by omega)
  clear hn
  by_cases hw : newE11 c l ws os ds = 0
  case neg =>
    have ew : (newE11 c l ws os ds != 0) = true := by simpa using hw
    clear hw HPL
    generalize newE11 c l ws os ds = nw at *
    go_enter Tryd.func11, Tryd.ntmps11
    obtain ⟨t0, t1, t2, t3, t4, t5, t6, t7, t8, t9, t10⟩ := eleven_at HN.out.box
    go_wp2_with fail
    refine (HFW.out _ HN.out.be).mono ?_
    rintro e w1 ⟨rfl, hb⟩
    have HN1 := Lib.hid (HN.out.ext hb)
    clear hb t0 t1 t2 t3 t4 t5 t6 t7 t8 t9 t10
    obtain ⟨t0, t1, t2, t3, t4, t5, t6, t7, t8, t9, t10⟩ := eleven_at HN1.out.box
    have hl1 := lt_of HN1.out.box
    go_wp2_with fail
    refine (HWR.out _ HN1.out.be).mono ?_
    rintro e w2 ⟨rfl, hb⟩
    have HN2 := Lib.hid (HN1.out.ext hb)
    clear hb t0 t1 t2 t3 t4 t5 t6 t7 t8 t9 t10 hl1
    go_wp2_with fail
    refine (HAW.out _ HN2.out.be).mono ?_
    rintro e w3 ⟨rfl, hb⟩
    have HB2 := Lib.hid (ext_trans HN2.out.be hb)
    clear hb
    go_wp2_with fail
    go_ret
    exact ⟨rfl, HB2.out⟩
  have HWR := HWR.out
  rw [hw] at HWR
  have HWR := Lib.hid HWR
  have HNE := Lib.hid hw
  have HRN := Lib.hid (Ma.Rng.new hw)
  have HGP := Lib.hid (show ∀ i, i < l.length → (atR l i).ps.length ≤ 1000 from fun i hi => by
    have hn := newE11_len hw
    have hgd := Ma.Good.new hw
    have h2 := (hgd.2 i (by show i < c.co.toNat; omega)).1.1
    have ep : ((maNew c l ws os ds l.length).se i).ps = (atR l i).ps := by
      show (seNew l ws l.length i).ps = _
      unfold seNew
      rw [if_pos hi]
      rfl
    rw [ep] at h2
    omega)
  obtain ⟨hok, hl1, hl2, hl3, hl4⟩ := newE11_len hw
  obtain ⟨⟨o1, o2⟩, ⟨o3, o4⟩, _⟩ := hok
  have HLEN := Lib.hid (show l.length ≤ 4 ∧ 1 ≤ l.length ∧ ws.length = l.length ∧ 1 ≤ os.length ∧ os.length ≤ 16 ∧ ds.length = 4 * os.length ∧ (l.length : Int) = c.co ∧ (os.length : Int) = c.gr by omega)
  have hl4' : (l.length : Int) ≤ 4 := by omega
  have HBN := Lib.hid (show B = none → ws.length = 0 ∧ c2 = 0 from fun e => by obtain ⟨b, off, h, _⟩ := HB.out (by omega); rw [e] at h; cases h)
  have HCN := Lib.hid (show C = none → os.length = 0 ∧ c3 = 0 from fun e => by obtain ⟨b, off, h, _⟩ := HC.out (by omega); rw [e] at h; cases h)
  have HDN := Lib.hid (show D = none → ds.length = 0 ∧ c4 = 0 from fun e => by obtain ⟨b, off, h, _⟩ := HD.out (by omega); rw [e] at h; cases h)
  obtain ⟨i0, hi, hz0, hz1, hz2⟩ := info_parts info_ins
  obtain ⟨i1, hj, hy0, hy1, hy2⟩ := info_parts info_prog11
  obtain ⟨i2, hk9, hx0, hx1, hx2⟩ := info_parts info_intG
  clear hw hl1 hl2 hl3 hl4 o1 o2 o3 o4
  go_enter Tryd.func11, Tryd.ntmps11
  obtain ⟨t0, t1, t2, t3, t4, t5, t6, t7, t8, t9, t10⟩ := eleven_at HN.out.box
  go_wp2_with fail
  refine (HFW.out _ HN.out.be).mono ?_
  rintro e w1 ⟨rfl, hb⟩
  have HN1 := Lib.hid (HN.out.ext hb)
  clear hb t0 t1 t2 t3 t4 t5 t6 t7 t8 t9 t10
  obtain ⟨t0, t1, t2, t3, t4, t5, t6, t7, t8, t9, t10⟩ := eleven_at HN1.out.box
  have hl1 := lt_of HN1.out.box
  go_wp2_with fail
  refine (HWR.out _ HN1.out.be).mono ?_
  rintro e w2 ⟨rfl, hb⟩
  have HN2 := Lib.hid (HN1.out.ext hb)
  clear hb t0 t1 t2 t3 t4 t5 t6 t7 t8 t9 t10 hl1
  obtain ⟨t0, t1, t2, t3, t4, t5, t6, t7, t8, t9, t10⟩ := eleven_at HN2.out.box
  have hl1 := lt_of HN2.out.box
  go_wp2_with fail
  obtain ⟨cb, hcb⟩ : ∃ q, q = w2.heap.size := ⟨_, rfl⟩
  have HK0 := Lib.hid (show Cw w (w2.alloc (.cells #[.int .i64 c.co, .int .i64 c.gr, .int .i64 c.se, .int .i64 c.wa, .int .i64 c.de, .int .i64 c.en, .int .i64 c.ba, .slice none 0 0, .slice none 0 0, .slice none 0 0, .slice none 0 0] 69)) cb 0 c A B C D l ws os ds c1 c2 c3 c4 none 0 (fun _ => (none, 0)) (.slice none 0 0) (.slice none 0 0) (.slice none 0 0) [] [] [] from ⟨HN2.out.ext (ext_alloc _ (Below.refl _ _)), alNew hcb, World.ownsRow_nil _ _ _ _, fun i hi => absurd hi (by omega), World.ownsRow_nil _ _ _ _, World.ownsRow_nil _ _ _ _, World.ownsRow_nil _ _ _ _, fun b e => (by cases e), by rw [hcb]; exact hl1⟩)
  rw [← hcb]
  clear hcb t0 t1 t2 t3 t4 t5 t6 t7 t8 t9 t10 hl1
  go_loopg [8] l.length (fun g s8 wr => ∃ k : Nat, s8 = .int .i64 k ∧ k + g = l.length ∧ Hid (∃ A2 c5 Q, Cw w wr cb k c A B C D l ws os ds c1 c2 c3 c4 A2 c5 Q (.slice none 0 0) (.slice none 0 0) (.slice none 0 0) [] [] []))
  case atStart => exact ⟨0, rfl, by omega, Lib.hid ⟨_, _, _, HK0.out⟩⟩
  case round =>
    obtain ⟨k, rfl, hk, HKe⟩ := hrel
    obtain ⟨A2, c5, Q, hK⟩ := HKe.out
    have HK := Lib.hid hK
    obtain ⟨t0, t1, t2, t3, t4, t5, t6, t7, t8, t9, t10⟩ := eleven_at hK.wb.box
    have tl1 := lt_of hK.wb.box
    obtain ⟨x0, x1, x2, x3, x4, x5, x6, x7, x8, x9, x10⟩ := eleven_at hK.box
    have xl := lt_of hK.box
    clear hK HKe
    by_cases hlt : k < l.length
    · have ek : decide ((k : Int) < (l.length : Int)) = true := by simp; omega
      have ek2 : decide (k < l.length) = true := by simpa using hlt
      have hkl : (k : Int) < (l.length : Int) := by omega
      have hk4 : (k : Int) ≤ 4 := by omega
      obtain ⟨bA, oA, hAA, hbA, hcA⟩ := HA.out.cells (by omega)
      have yA := (HK.out.wb.be.cell (p := ⟨bA, oA + k, none⟩) hbA).trans (hcA k hlt)
      have lA := Nat.lt_of_lt_of_le hbA HK.out.wb.be.size
      have hpi := (HA.out.ext HK.out.wb.be).ins k hlt
      have hg1 := HGP.out k hlt
      obtain ⟨pr, hpr⟩ : ∃ x, x = atR l k := ⟨_, rfl⟩
      rw [← hpr] at yA hpi hg1
      have HPR := Lib.hid hpr
      have HPI := Lib.hid hpi
      have HPF := Lib.hid (show ∀ ad, pr.A = some ad → ∀ j u, (flatI pr.ps)[j]? = some u → wr.drew.cell? (ad.add j) = some u from (hpi.1.ext (ext_drew (Below.refl _ _))).full)
      have HLT := Lib.hid (And.intro hk hlt)
      obtain ⟨pA, pc, ps⟩ := pr
      dsimp only at yA HPI HPF hg1
      subst hAA
      clear hk hlt hcA hpi hpr hbA HK0
      go_upto_if 46 with (fail)
      iterate 5 go_step
      go_cut [49] from 42 to 60 (fun s49 wd => Hid (∃ A2 c5 Q, Cw w wd cb (k + 1) c (some ⟨bA, oA, none⟩) B C D l ws os ds c1 c2 c3 c4 A2 c5 Q (.slice none 0 0) (.slice none 0 0) (.slice none 0 0) [] [] []))
      case first =>
        go_upto_region 9 with (fail)
        go_region_law (first
          | (refine step_append_full _ rfl (.tmp 50) (.tmp 58) 66 rfl (cb + 1) 22 i1 (.slice none 0 0) 1 24 Tryd.underlying66 hj hy0 hy1 hy2 rfl (by decide) (.slice A2 k c5) k (tab k (qV Q l)) (by simp [Act.eval]) HO2.out (some ⟨w2.heap.size, 0, none⟩) 1 1 [.slice A3 ps.length c7] (by simp [Act.eval]) (fun e => by cases e) rfl (fun ad e => by cases e; exact HNw.out) (by intro u hu; simp at hu; subst hu; rfl) (by unfold maxLen; omega) (by omega) (by have := lt_of HK.out.box; have := hbw2.size; simp; omega) ?_; intro A4 c6 w4 h4 ho hg hf; have HH4 := Lib.hid (show w4.heap[cb]? = wr.heap[cb]? from (hg.block cb (by have := hbw2.size; simp; omega) (fun e => by have := own_ge HK.out.row e.symm; omega)).trans ((Below.heap_alloc _ _ _ (by have := hbw2.size; omega)).trans (hbw2.block cb xl))); have q7 := (World.cell?_of_block (a := ⟨cb, 7, none⟩) HH4.out).trans x7; have qf : w4.frozen? ⟨cb, 7, none⟩ = false := (World.frozen?_of_block (a := ⟨cb, 7, none⟩) HH4.out).trans (by simp [World.frozen?, HK.out.box]); have HAP := Lib.hid (And.intro ho (And.intro hg hf)); clear h4 ho hg hf)
          | (refine step_append_full _ rfl (.tmp 51) (.tmp 56) 22 rfl (cb + 1) 36 i0 (.agg #[.int .i64 0, .int .i64 0, .int .i64 0, .int .i64 0]) 4 32 Tryd.underlying22 hi hz0 hz1 hz2 rfl (by decide) (.slice none 0 0) 0 [] (by simp [Act.eval]) (World.ownsRow_nil _ _ _ _) pA ps.length pc (flatI ps) (by simp [Act.eval]) HPI.out.2 (flatI_len _) HPF.out (flatI_one _) (by unfold maxLen; omega) (by omega) (by simp; omega) ?_; intro A3 c7 w2 h3 ho hg hf; have HV2 := Lib.hid (show w2.ownsRow (cb + 1) 36 4 (.slice A3 ps.length c7) ps.length (flatI ps) ∧ (∀ b, (Value.slice A3 ps.length c7).ownBlock = some b → wr.heap.size ≤ b) ∧ Below wr.heap.size wr w2 from ⟨by simpa using ho, fun g e => by rcases hf g (by simpa using e) with h | h; (cases h); exact h, (ext_drew (Below.refl _ _)).grown hg (Nat.le_refl _) (fun k e => by cases e)⟩); have hbw2 : Below wr.heap.size wr w2 := HV2.out.2.2; have x72 := (hbw2.cell (p := ⟨cb, 7, none⟩) xl).trans x7; have xl2 := Nat.lt_of_lt_of_le xl hbw2.size; have HO2 := Lib.hid (show (w2.alloc (.cells #[.slice A3 ps.length c7] 22)).ownsRow (cb + 1) 22 1 (.slice A2 k c5) k (tab k (qV Q l)) from row_keep HK.out.row (fun g hg => (Below.heap_alloc _ _ _ (Nat.lt_of_lt_of_le (HK.out.row.lt g hg).2 HV2.out.2.2.size)).trans (HV2.out.2.2.block g (HK.out.row.lt g hg).2))); have HNw := Lib.hid (show ∀ j u, [Value.slice A3 ps.length c7][j]? = some u → (w2.alloc (.cells #[.slice A3 ps.length c7] 22)).cell? ((⟨w2.heap.size, 0, none⟩ : Addr).add j) = some u from fun j u hu => by
              rw [Addr.add_lit, Nat.zero_add]
              unfold World.cell?
              rw [show (w2.alloc (.cells #[.slice A3 ps.length c7] 22)).heap[w2.heap.size]? = _ from alNew rfl]
              simpa using hu); clear h3 ho hg hf))
        all_goals
          have HP2 := Lib.hid (HK.out.next (w2 := w2) (w3 := w2.alloc (.cells #[.slice A3 ps.length c7] 22)) (A3 := A3) (c7 := c7) hbw2 (by rw [← HPR.out]; exact HV2.out.1) (by rw [← HPR.out]; exact HV2.out.2.1) (ext_alloc _ (Below.refl _ _)) (by rw [← HPR.out]; exact HAP.out.1) HAP.out.2.1 HAP.out.2.2 ⟨rfl, rfl, rfl, rfl⟩)
          go_wp2_with fail
          go_meet
          exact Lib.hid ⟨_, _, _, HP2.out⟩
      case rest =>
        have HR := hcut
        go_wp2_with fail
        go_roundg (l.length - (k + 1))
        case measure => have := HLT.out; omega
        case rel => exact ⟨k + 1, by go_num, by have := HLT.out; omega, HR⟩
    · have ek : decide ((k : Int) < (l.length : Int)) = false := by simp; omega
      have ek2 : decide (k < l.length) = false := by simpa using hlt
      obtain rfl : k = l.length := by omega
      clear hk hlt HK0
      go_upto_region 10 with (fail)
      have HFU := Lib.hid (show ∀ ad, B = some ad → ∀ j u, (ws.map (Value.int .i64))[j]? = some u → wr.cell? (ad.add j) = some u from (HB.out.ext HK.out.wb.be).full)
      go_cut [61] from 61 to 66 (fun s wd => Hid (∃ A3 c6, Cw w wd cb l.length c A B C D l ws os ds c1 c2 c3 c4 A2 c5 Q (.slice A3 ws.length c6) (.slice none 0 0) (.slice none 0 0) ws [] []))
      case first =>
        go_wp2_with (at_builtin; refine wpList_append_full _ rfl (.tmp 62) (.tmp 64) 67 rfl (cb + 1) 3 i2 (.int .i64 0) 1 8 Tryd.underlying67 hk9 hx0 hx1 hx2 rfl (by decide) (.slice none 0 0) 0 [] rfl (World.ownsRow_nil _ _ _ _) B ws.length c2 (ws.map (Value.int .i64)) rfl HBN.out (by simp) HFU.out (by intro u hu; simp at hu; obtain ⟨y, _, rfl⟩ := hu; rfl) (by have := HLEN.out; unfold maxLen; omega) (by have := HLEN.out; omega) (by omega) ?_; intro A9 c9 w2 h3 ho hg hf; have hgw : Below wr.heap.size wr w2 := (Below.refl _ _).grown hg (Nat.le_refl _) (fun k e => by cases e); have q7 := (hgw.cell (p := ⟨cb, 8, none⟩) xl).trans x8; have qf : w2.frozen? ⟨cb, 8, none⟩ = false := (World.frozen?_of_block (a := ⟨cb, 8, none⟩) (hgw.block cb xl)).trans (by simp [World.frozen?, HK.out.box]); have HAP := Lib.hid (show w2.ownsRow (cb + 1) 3 1 (.slice A9 ws.length c9) ws.length (ws.map (Value.int .i64)) ∧ Below wr.heap.size wr w2 ∧ ∀ g, (Value.slice A9 ws.length c9).ownBlock = some g → wr.heap.size ≤ g from ⟨by simpa using ho, hgw, fun g e => by rcases hf g (by simpa using e) with h | h; (cases h); exact h⟩); clear h3 ho hg hf hgw)
        have HP2 := Lib.hid ((HK.out.ext HAP.out.2.1).set2 HAP.out.1 (fun b e e2 => by have := HAP.out.2.2 b e; have := (HK.out.row.lt b e2).2; omega))
        go_wp2_with fail
        go_meet
        exact Lib.hid ⟨_, _, HP2.out⟩
      case rest =>
        clear HFU t0 t1 t2 t3 t4 t5 t6 t7 t8 t9 t10 tl1 x0 x1 x2 x3 x4 x5 x6 x7 x8 x9 x10 xl HK
        obtain ⟨A3, c6, hK⟩ := hcut.out
        have HK := Lib.hid hK
        obtain ⟨wr, hwr⟩ : ∃ W, W = wc := ⟨_, rfl⟩
        subst hwr
        obtain ⟨t0, t1, t2, t3, t4, t5, t6, t7, t8, t9, t10⟩ := eleven_at hK.wb.box
        have tl1 := lt_of hK.wb.box
        obtain ⟨x0, x1, x2, x3, x4, x5, x6, x7, x8, x9, x10⟩ := eleven_at hK.box
        have xl := lt_of hK.box
        clear hK hcut
        go_upto_region 11 with (fail)
        have HFU := Lib.hid (show ∀ ad, C = some ad → ∀ j u, (os.map (Value.int .i64))[j]? = some u → wr.cell? (ad.add j) = some u from (HC.out.ext HK.out.wb.be).full)
        go_cut [67] from 67 to 72 (fun s wd => Hid (∃ A4 c7, Cw w wd cb l.length c A B C D l ws os ds c1 c2 c3 c4 A2 c5 Q (.slice A3 ws.length c6) (.slice A4 os.length c7) (.slice none 0 0) ws os []))
        case first =>
          go_wp2_with (at_builtin; refine wpList_append_full _ rfl (.tmp 68) (.tmp 70) 67 rfl (cb + 1) 3 i2 (.int .i64 0) 1 8 Tryd.underlying67 hk9 hx0 hx1 hx2 rfl (by decide) (.slice none 0 0) 0 [] rfl (World.ownsRow_nil _ _ _ _) C os.length c3 (os.map (Value.int .i64)) rfl HCN.out (by simp) HFU.out (by intro u hu; simp at hu; obtain ⟨y, _, rfl⟩ := hu; rfl) (by have := HLEN.out; unfold maxLen; omega) (by have := HLEN.out; omega) (by omega) ?_; intro A9 c9 w2 h3 ho hg hf; have hgw : Below wr.heap.size wr w2 := (Below.refl _ _).grown hg (Nat.le_refl _) (fun k e => by cases e); have q7 := (hgw.cell (p := ⟨cb, 9, none⟩) xl).trans x9; have qf : w2.frozen? ⟨cb, 9, none⟩ = false := (World.frozen?_of_block (a := ⟨cb, 9, none⟩) (hgw.block cb xl)).trans (by simp [World.frozen?, HK.out.box]); have HAP := Lib.hid (show w2.ownsRow (cb + 1) 3 1 (.slice A9 os.length c9) os.length (os.map (Value.int .i64)) ∧ Below wr.heap.size wr w2 ∧ ∀ g, (Value.slice A9 os.length c9).ownBlock = some g → wr.heap.size ≤ g from ⟨by simpa using ho, hgw, fun g e => by rcases hf g (by simpa using e) with h | h; (cases h); exact h⟩); clear h3 ho hg hf hgw)
          have HP2 := Lib.hid ((HK.out.ext HAP.out.2.1).set3 HAP.out.1)
          go_wp2_with fail
          go_meet
          exact Lib.hid ⟨_, _, HP2.out⟩
        case rest =>
          clear HFU t0 t1 t2 t3 t4 t5 t6 t7 t8 t9 t10 tl1 x0 x1 x2 x3 x4 x5 x6 x7 x8 x9 x10 xl HK
          obtain ⟨A4, c7, hK⟩ := hcut.out
          have HK := Lib.hid hK
          obtain ⟨wr, hwr⟩ : ∃ W, W = wc := ⟨_, rfl⟩
          subst hwr
          obtain ⟨t0, t1, t2, t3, t4, t5, t6, t7, t8, t9, t10⟩ := eleven_at hK.wb.box
          have tl1 := lt_of hK.wb.box
          obtain ⟨x0, x1, x2, x3, x4, x5, x6, x7, x8, x9, x10⟩ := eleven_at hK.box
          have xl := lt_of hK.box
          clear hK hcut
          go_upto_region 12 with (fail)
          have HFU := Lib.hid (show ∀ ad, D = some ad → ∀ j u, (ds.map (Value.int .i64))[j]? = some u → wr.cell? (ad.add j) = some u from (HD.out.ext HK.out.wb.be).full)
          go_cut [73] from 73 to 78 (fun s wd => Hid (∃ A5 c8, Cw w wd cb l.length c A B C D l ws os ds c1 c2 c3 c4 A2 c5 Q (.slice A3 ws.length c6) (.slice A4 os.length c7) (.slice A5 ds.length c8) ws os ds))
          case first =>
            go_wp2_with (at_builtin; refine wpList_append_full _ rfl (.tmp 74) (.tmp 76) 67 rfl (cb + 1) 3 i2 (.int .i64 0) 1 8 Tryd.underlying67 hk9 hx0 hx1 hx2 rfl (by decide) (.slice none 0 0) 0 [] rfl (World.ownsRow_nil _ _ _ _) D ds.length c4 (ds.map (Value.int .i64)) rfl HDN.out (by simp) HFU.out (by intro u hu; simp at hu; obtain ⟨y, _, rfl⟩ := hu; rfl) (by have := HLEN.out; unfold maxLen; omega) (by have := HLEN.out; omega) (by omega) ?_; intro A9 c9 w2 h3 ho hg hf; have hgw : Below wr.heap.size wr w2 := (Below.refl _ _).grown hg (Nat.le_refl _) (fun k e => by cases e); have q7 := (hgw.cell (p := ⟨cb, 10, none⟩) xl).trans x10; have qf : w2.frozen? ⟨cb, 10, none⟩ = false := (World.frozen?_of_block (a := ⟨cb, 10, none⟩) (hgw.block cb xl)).trans (by simp [World.frozen?, HK.out.box]); have HAP := Lib.hid (show w2.ownsRow (cb + 1) 3 1 (.slice A9 ds.length c9) ds.length (ds.map (Value.int .i64)) ∧ Below wr.heap.size wr w2 ∧ ∀ g, (Value.slice A9 ds.length c9).ownBlock = some g → wr.heap.size ≤ g from ⟨by simpa using ho, hgw, fun g e => by rcases hf g (by simpa using e) with h | h; (cases h); exact h⟩); clear h3 ho hg hf hgw)
            have HP2 := Lib.hid ((HK.out.ext HAP.out.2.1).set4 HAP.out.1)
            go_wp2_with fail
            go_meet
            exact Lib.hid ⟨_, _, HP2.out⟩
          case rest =>
            clear HFU t0 t1 t2 t3 t4 t5 t6 t7 t8 t9 t10 tl1 x0 x1 x2 x3 x4 x5 x6 x7 x8 x9 x10 xl HK
            obtain ⟨A5, c8, hK⟩ := hcut.out
            have HK := Lib.hid hK
            obtain ⟨wr, hwr⟩ : ∃ W, W = wc := ⟨_, rfl⟩
            subst hwr
            obtain ⟨t0, t1, t2, t3, t4, t5, t6, t7, t8, t9, t10⟩ := eleven_at hK.wb.box
            have tl1 := lt_of hK.wb.box
            obtain ⟨x0, x1, x2, x3, x4, x5, x6, x7, x8, x9, x10⟩ := eleven_at hK.box
            have xl := lt_of hK.box
            clear hK hcut
            have HMK := Lib.hid (HK.out.make (HL.out.ext HK.out.wb.be) (HO.out.ext HK.out.wb.be) HNE.out (by have := HLEN.out; omega) (by have := HLEN.out; omega) (by have := HLEN.out; omega) (by have := HLEN.out; omega))
            go_wp2_with fail
            refine HMK.out.mono ?_
            rintro e w3 ⟨p, lo, hi, bP, bB, bC, bD, rfl, hlo, hD0⟩
            have HD0 := Lib.hid hD0
            clear HMK HK hD0 hlo t0 t1 t2 t3 t4 t5 t6 t7 t8 t9 t10 tl1 x0 x1 x2 x3 x4 x5 x6 x7 x8 x9 x10 xl
            generalize maNew c l ws os ds l.length = M0 at *
            go_wp2_with fail
            go_loopg [12] l.length (fun g s12 wr => ∃ k : Nat, s12 = .int .i64 k ∧ k + g = l.length ∧ Hid (Dv w wr lo hi p cb bP bB bC bD M0 c A B C D l ws os ds c1 c2 c3 c4 c5 c6 c7 c8 Q true))
            case atStart => exact ⟨0, rfl, by omega, HD0⟩
            case round =>
              obtain ⟨k, rfl, hk, HV⟩ := hrel
              obtain ⟨x0, x1, x2, x3, x4, x5, x6, x7, x8, x9, x10⟩ := eleven_at HV.out.box
              have xl := lt_of HV.out.box
              clear HD0
              by_cases hlt : k < l.length
              · have ek : decide ((k : Int) < (l.length : Int)) = true := by simp; omega
                have ek2 : decide (k < l.length) = true := by simpa using hlt
                have HLT := Lib.hid (And.intro hk hlt)
                clear hk hlt
                go_wp2_with fail
                go_loopg [13] (atR l k).ps.length (fun g s13 wr => ∃ j : Nat, s13 = .int .i64 j ∧ j + g = (atR l k).ps.length ∧ Hid (Dv w wr lo hi p cb bP bB bC bD M0 c A B C D l ws os ds c1 c2 c3 c4 c5 c6 c7 c8 Q true))
                case atStart => exact ⟨0, rfl, by omega, HV⟩
                case round =>
                  clear x0 x1 x2 x3 x4 x5 x6 x7 x8 x9 x10 xl HV
                  obtain ⟨j, rfl, hj2, HV⟩ := hrel
                  have yP := HV.out.pr rfl k HLT.out.2
                  obtain ⟨x0, x1, x2, x3, x4, x5, x6, x7, x8, x9, x10⟩ := eleven_at HV.out.box
                  have xl := lt_of HV.out.box
                  have pl := HV.out.bd.2.2.2
                  have hkl : (k : Int) < (l.length : Int) := by have := HLT.out; omega
                  unfold qV at yP
                  by_cases hjt : j < (atR l k).ps.length
                  · obtain ⟨b, hbq, hrm, hb1, hb2, hb3, hb4⟩ := HV.out.rq k HLT.out.2 (by omega)
                    rw [hbq] at yP
                    obtain ⟨⟨u0, y0⟩, f0⟩ := hrm.2 (j * 4) (by omega)
                    obtain ⟨⟨u1, y1⟩, f1⟩ := hrm.2 (j * 4 + 1) (by omega)
                    obtain ⟨⟨u2, y2⟩, f2⟩ := hrm.2 (j * 4 + 2) (by omega)
                    obtain ⟨⟨u3, y3⟩, f3⟩ := hrm.2 (j * 4 + 3) (by omega)
                    have HS2 := Lib.hid ((((HV.out.set ⟨hb1, hb2, hb3⟩ (fun _ => hb4) (j * 4) (.int .i64 11)).set ⟨hb1, hb2, hb3⟩ (fun _ => hb4) (j * 4 + 1) (.int .i64 0)).set ⟨hb1, hb2, hb3⟩ (fun _ => hb4) (j * 4 + 2) (.int .i64 0)).set ⟨hb1, hb2, hb3⟩ (fun _ => hb4) (j * 4 + 3) (.int .i64 0))
                    have HJT := Lib.hid (And.intro hj2 hjt)
                    have hj1000 : (j : Int) ≤ 1000 := by have := HGP.out k HLT.out.2; omega
                    generalize (Q k).2 = qc at yP
                    clear hbq hrm hb1 hb2 hb3 hb4 HV hj2
                    generalize (atR l k).ps.length = n at *
                    have ej : decide ((j : Int) < (n : Int)) = true := by simp; omega
                    have ej2 : decide (j < n) = true := by simpa using hjt
                    have hjl : (j : Int) < (n : Int) := by omega
                    clear hjt
                    go_wp2_with fail
                    go_roundg (n - (j + 1))
                    case measure => have := HJT.out; omega
                    case rel => exact ⟨j + 1, by go_num, by have := HJT.out; omega, HS2⟩
                  · obtain ⟨hrB, hb1, hb2, hb3, hb4⟩ := HV.out.rB
                    obtain ⟨⟨u0, y0⟩, f0⟩ := hrB.2 k (by have := HLEN.out; have := HLT.out; omega)
                    have HS2 := Lib.hid (HV.out.set ⟨hb1, hb2, hb3⟩ (fun _ => hb4) k (.int .i64 3))
                    generalize (Q k).1 = qa at yP
                    generalize (Q k).2 = qc at yP
                    have hwl : (k : Int) < (ws.length : Int) := by have := HLEN.out; omega
                    clear hrB hb1 hb2 hb3 hb4 HV hj2
                    generalize (atR l k).ps.length = n at *
                    have ej : decide ((j : Int) < (n : Int)) = false := by simp; omega
                    have ej2 : decide (j < n) = false := by simpa using hjt
                    clear hjt
                    go_wp2_with fail
                    go_roundg (l.length - (k + 1))
                    case measure => have := HLT.out; omega
                    case rel => exact ⟨k + 1, by go_num, by have := HLT.out; omega, HS2⟩
              · have ek : decide ((k : Int) < (l.length : Int)) = false := by simp; omega
                have ek2 : decide (k < l.length) = false := by simpa using hlt
                have HV4 := Lib.hid HV.out.off
                clear hk hlt HV
                go_wp2_with fail
                go_loopg [14] os.length (fun g s14 wr => ∃ k : Nat, s14 = .int .i64 k ∧ k + g = os.length ∧ Hid (Dv w wr lo hi p cb bP bB bC bD M0 c A B C D l ws os ds c1 c2 c3 c4 c5 c6 c7 c8 Q false))
                case atStart => exact ⟨0, rfl, by omega, HV4⟩
                case round =>
                  obtain ⟨k, rfl, hk, HV⟩ := hrel
                  clear x0 x1 x2 x3 x4 x5 x6 x7 x8 x9 x10 xl HV4
                  obtain ⟨x0, x1, x2, x3, x4, x5, x6, x7, x8, x9, x10⟩ := eleven_at HV.out.box
                  have xl := lt_of HV.out.box
                  by_cases hlt : k < os.length
                  · have ek : decide ((k : Int) < (os.length : Int)) = true := by simp; omega
                    have ek2 : decide (k < os.length) = true := by simpa using hlt
                    have hkl : (k : Int) < (os.length : Int) := by omega
                    have hk64 : (k : Int) ≤ 64 := by have := HLEN.out; omega
                    obtain ⟨hrB, hb1, hb2, hb3⟩ := HV.out.rC
                    obtain ⟨⟨u0, y0⟩, f0⟩ := hrB.2 k hlt
                    have HS2 := Lib.hid (HV.out.set ⟨hb1, hb2, hb3⟩ (fun e => by cases e) k (.int .i64 4))
                    have HLT := Lib.hid (And.intro hk hlt)
                    clear hk hlt hrB hb1 hb2 hb3 HV
                    go_wp2_with fail
                    go_roundg (os.length - (k + 1))
                    case measure => have := HLT.out; omega
                    case rel => exact ⟨k + 1, by go_num, by have := HLT.out; omega, HS2⟩
                  · have ek : decide ((k : Int) < (os.length : Int)) = false := by simp; omega
                    have ek2 : decide (k < os.length) = false := by simpa using hlt
                    have HV4 := HV
                    clear hk hlt HV
                    go_wp2_with fail
                    go_loopg [15] ds.length (fun g s15 wr => ∃ k : Nat, s15 = .int .i64 k ∧ k + g = ds.length ∧ Hid (Dv w wr lo hi p cb bP bB bC bD M0 c A B C D l ws os ds c1 c2 c3 c4 c5 c6 c7 c8 Q false))
                    case atStart => exact ⟨0, rfl, by omega, HV4⟩
                    case round =>
                      obtain ⟨k, rfl, hk, HV⟩ := hrel
                      clear x0 x1 x2 x3 x4 x5 x6 x7 x8 x9 x10 xl HV4
                      obtain ⟨x0, x1, x2, x3, x4, x5, x6, x7, x8, x9, x10⟩ := eleven_at HV.out.box
                      have xl := lt_of HV.out.box
                      by_cases hlt : k < ds.length
                      · have ek : decide ((k : Int) < (ds.length : Int)) = true := by simp; omega
                        have ek2 : decide (k < ds.length) = true := by simpa using hlt
                        have hkl : (k : Int) < (ds.length : Int) := by omega
                        have hk64 : (k : Int) ≤ 64 := by have := HLEN.out; omega
                        obtain ⟨hrB, hb1, hb2, hb3⟩ := HV.out.rD
                        obtain ⟨⟨u0, y0⟩, f0⟩ := hrB.2 k hlt
                        have HS2 := Lib.hid (HV.out.set ⟨hb1, hb2, hb3⟩ (fun e => by cases e) k (.int .i64 (-5)))
                        have HLT := Lib.hid (And.intro hk hlt)
                        clear hk hlt hrB hb1 hb2 hb3 HV
                        go_wp2_with fail
                        go_roundg (ds.length - (k + 1))
                        case measure => have := HLT.out; omega
                        case rel => exact ⟨k + 1, by go_num, by have := HLT.out; omega, HS2⟩
                      · have ek : decide ((k : Int) < (ds.length : Int)) = false := by simp; omega
                        have ek2 : decide (k < ds.length) = false := by simpa using hlt
                        have HP3 := Lib.hid HV.out.lw
                        clear hk hlt HV
                        obtain ⟨t0, t1, t2, t3, t4, t5, t6, t7, t8, t9, t10⟩ := eleven_at HP3.out.wb.box
                        have hl1 := lt_of HP3.out.wb.box
                        go_wp2_with fail
                        refine (HPL.out _ HP3.out.wb.be HGP.out HNE.out).mono ?_
                        rintro e w4 ⟨lo2, q, bL, bO, bW, cl, co, cw, P, rfl, hd, hlo2, hb⟩
                        have HS := Lib.hid (show Sq w w4 lo hi p lo2 w4.heap.size q bL bO bW cl co cw P M0 c A B C D l ws os ds c1 c2 c3 c4 from ⟨HP3.out.ext hb, hd, HRN.out, Nat.le_trans HP3.out.mc.sz.1 hlo2⟩)
                        clear hd hlo2 hb t0 t1 t2 t3 t4 t5 t6 t7 t8 t9 t10 hl1 HPL HP3 HGP HRN HFW HN HN1 HN2 HNE x0 x1 x2 x3 x4 x5 x6 x7 x8 x9 x10 xl
                        generalize w4.heap.size = hi2 at HS
                        go_wp2_with fail
                        go_loopg [17] tl.length (fun g s17 wr => ∃ (k : Nat) (M : Ma), s17 = .int .i64 k ∧ k + g = tl.length ∧ Hid (Sq w wr lo hi p lo2 hi2 q bL bO bW cl co cw P M c A B C D l ws os ds c1 c2 c3 c4))
                        case atStart => exact ⟨0, M0, rfl, by omega, HS⟩
                        case round =>
                          obtain ⟨k, M, rfl, hk, HR⟩ := hrel
                          by_cases hlt : k < tl.length
                          · have ek : decide ((k : Int) < (tl.length : Int)) = true := by simp; omega
                            have ek2 : decide (k < tl.length) = true := by simpa using hlt
                            obtain ⟨b, off, hEE, hbl, hcs⟩ := ((HE.out.ext HR.out.a.wb.be) (by omega))
                            obtain ⟨y0, y1⟩ := hcs k hlt
                            have hkl : (k : Int) < (tl.length : Int) := by omega
                            have hk80 : (k : Int) ≤ 60 := by have := H60.out; omega
                            have HLT := Lib.hid (And.intro hk hlt)
                            subst hEE
                            clear hcs hk hlt
                            generalize atT tl k = tk at *
                            obtain ⟨tx, tb⟩ := tk
                            dsimp only at y0 y1
                            have HST := Lib.hid (dstep2_any HR.out.a.mc HR.out.d HR.out.a.gd HR.out.r (HL.out.ext HR.out.a.wb.be) HR.out.ap tx tb)
                            go_wp2_with fail
                            refine HST.out.mono ?_
                            rintro e w6 ⟨rfl, hm6, hd6, hr6⟩
                            have HR6 := Lib.hid (HR.out.step tx tb hm6 hd6 hr6)
                            clear hm6 hd6 hr6 y0 y1 hbl
                            go_wp2_with fail
                            go_roundg (tl.length - (k + 1))
                            case measure => have := HLT.out; omega
                            case rel => exact ⟨k + 1, _, by go_num, by have := HLT.out; omega, HR6⟩
                          · have ek : decide ((k : Int) < (tl.length : Int)) = false := by simp; omega
                            have ek2 : decide (k < tl.length) = false := by simpa using hlt
                            clear hk hlt HS
                            go_wp2_with fail
                            refine (acopy_all HR.out.a.mc HR.out.a.gd).mono ?_
                            rintro e w5 ⟨p3, rfl, hM3, hb⟩
                            have HV5 := Lib.hid (show Sv w w5 lo hi p lo2 hi2 q bL bO bW cl co cw wr.heap.size w5.heap.size p3 P M M c A B C D l ws os ds c1 c2 c3 c4 from ⟨HR.out.a.ext hb, HR.out.d.ext hb, hM3, HR.out.a.gd, HR.out.r, HR.out.ap, HR.out.a.mc.sz.1⟩)
                            clear hM3 hb HR
                            generalize wr.heap.size = lo3 at HV5
                            generalize w5.heap.size = hi3 at HV5
                            have HSM := Lib.hid (dsame_any HV5.out.m HV5.out.d HV5.out.g HV5.out.r (HL.out.ext HV5.out.a.wb.be))
                            go_wp2_with fail
                            refine HSM.out.mono ?_
                            rintro e w6 ⟨rfl, hb⟩
                            have HV6 := Lib.hid (HV5.out.ext hb)
                            clear hb HV5 HSM
                            go_wp2_with fail
                            go_loopg [19] nl.length (fun g s19 wr => ∃ (k : Nat) (M1 : Ma), s19 = .int .i64 k ∧ k + g = nl.length ∧ Hid (Sv w wr lo hi p lo2 hi2 q bL bO bW cl co cw lo3 hi3 p3 P M1 M c A B C D l ws os ds c1 c2 c3 c4))
                            case atStart => exact ⟨0, M, rfl, by omega, HV6⟩
                            case round =>
                              obtain ⟨k, M1, rfl, hk, HR⟩ := hrel
                              clear HV6
                              by_cases hlt : k < nl.length
                              · have ek : decide ((k : Int) < (nl.length : Int)) = true := by simp; omega
                                have ek2 : decide (k < nl.length) = true := by simpa using hlt
                                obtain ⟨b, off, hEE, hbl, hcs⟩ := ((HF.out.ext HR.out.a.wb.be) (by omega))
                                obtain ⟨y0, y1⟩ := hcs k hlt
                                have hkl : (k : Int) < (nl.length : Int) := by omega
                                have hk80 : (k : Int) ≤ 60 := by have := H602.out; omega
                                have HLT := Lib.hid (And.intro hk hlt)
                                have HST := Lib.hid (astep_all (HR.out.a.mc.ext (ext_drew (Below.refl _ wr))) HR.out.a.gd (HL.out.ext (ext_drew HR.out.a.wb.be)) (atT nl k).1 (atT nl k).2)
                                subst hEE
                                clear hcs hk hlt
                                generalize atT nl k = tk at *
                                obtain ⟨tx, tb⟩ := tk
                                dsimp only at y0 y1 HST
                                go_wp2_with fail
                                go_still_tail 11, (by kernel_rfl)
                                change wpList _ _ _ _ _ wr.drew
                                go_wp2_with fail
                                refine HST.out.mono ?_
                                rintro e w7 ⟨rfl, hM, hr⟩
                                have HR4 := Lib.hid ((HR.out.ext (ext_drew (Below.refl _ _))).step tx tb hM hr)
                                clear hM hr y0 y1 hbl
                                go_wp2_with fail
                                go_roundg (nl.length - (k + 1))
                                case measure => have := HLT.out; omega
                                case rel => exact ⟨k + 1, _, by go_num, by have := HLT.out; omega, HR4⟩
                              · have ek : decide ((k : Int) < (nl.length : Int)) = false := by simp; omega
                                have ek2 : decide (k < nl.length) = false := by simpa using hlt
                                have HSM := Lib.hid (dsame_any HR.out.m HR.out.d HR.out.g HR.out.r (HL.out.ext HR.out.a.wb.be))
                                clear hk hlt
                                go_wp2_with fail
                                refine HSM.out.mono ?_
                                rintro e w7 ⟨rfl, hb⟩
                                have HR7 := Lib.hid (HR.out.ext hb)
                                clear hb
                                go_wp2_with fail
                                refine (HAW.out _ HR7.out.a.wb.be).mono ?_
                                rintro e w8 ⟨rfl, hb⟩
                                have HB8 := Lib.hid (ext_trans HR7.out.a.wb.be hb)
                                clear hb
                                go_wp2_with fail
                                go_ret
                                exact ⟨rfl, HB8.out⟩
end

end Go.Proofs.YtkobeajbiendlaaDoor
