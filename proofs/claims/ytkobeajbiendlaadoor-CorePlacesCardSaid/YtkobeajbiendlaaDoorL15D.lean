/- What this text holds: the law CorePlaces, walked. Conditions: the tables of limits and of ops hold what their initialisers lay. -/
import Derived.Test.YtkobeajbiendlaaDoorL15C
namespace Go.Proofs.YtkobeajbiendlaaDoor
open Go.RowKit

theorem toI_bd {s : CoS} (hg : GoodP s.ps) (he : endB s.ps s.a = false) : 0 ≤ toI s (atI s.ps s.a.toNat) ∧ toI s (atI s.ps s.a.toNat) ≤ s.ps.length := by
  obtain ⟨k, hk, hkl, _⟩ := endB_no he
  have ek : s.a.toNat = k := by omega
  obtain ⟨x, hx, _, _, _, _, _, _, g9, g10, _⟩ := good_at hg hkl
  rw [ek, hx]
  unfold toI
  split
  · rename_i h
    exact g10 h.1
  split
  · rename_i h
    exact g9 h
  · omega
theorem Kc.rg {w w' : World} {lo hi q : Nat} {v : Value} {s : CoS} (h : Kc w q v s) (hr : Rg lo hi w w') (hq : hi ≤ q) (hv : ∀ g, v.ownBlock = some g → hi ≤ g) : Kc w' q v s := by
  refine ⟨(hr.block q h.lt (.inr hq)).trans h.blk, ?_, h.ne⟩
  obtain ⟨A, c, rfl, h2, h3⟩ := h.pg
  refine ⟨A, c, rfl, fun h0 => ?_, h3⟩
  obtain ⟨b, off, hA, hl, _⟩ := h2 h0
  exact h2.keep (fun ad hA' => by
    rw [hA] at hA'
    obtain rfl := Option.some.inj hA'
    exact hr.block b hl (.inr (hv b (by rw [hA]; rfl)))) h0
theorem Kc.oth {w w' : World} {b q : Nat} {v : Value} {s : CoS} (h : Kc w q v s) (hg : w.grownBy w' (some b)) (hq : q < b) (hv : ∀ g, v.ownBlock = some g → g < q) : Kc w' q v s := by
  refine ⟨(hg.block q h.lt (fun e => by have := Option.some.inj e; omega)).trans h.blk, ?_, h.ne⟩
  obtain ⟨A, c, rfl, h2, h3⟩ := h.pg
  refine ⟨A, c, rfl, fun h0 => ?_, h3⟩
  obtain ⟨b1, off, hA, hl, _⟩ := h2 h0
  exact h2.keep (fun ad hA' => by
    rw [hA] at hA'
    obtain rfl := Option.some.inj hA'
    exact hg.block b1 hl (fun e => by have := Option.some.inj e; have := hv b1 (by rw [hA]; rfl); omega)) h0
theorem stepA_zero {s : CoS} {M : Ma} (h : Ag s M) (hg : M.Good) (hc : M.nc = 1) (he : endB s.ps s.a = false) : M.stepA 0 false = ((M.step 0 false).1, 0, (M.step 0 false).2) := by
  have ho := (hg.2 0 (by omega)).2
  rw [h.ps, h.a, he] at ho
  unfold Ma.stepA
  rw [if_neg (by omega), show (0 : Int).toNat = 0 from rfl, if_neg (by rw [ho]; simp)]
/-- Local, whatever comes next. -/
theorem local_any {s : CoS} (q : Nat) (v : Value) (w : World) (h : Kc w q v s) (hg : GoodP s.ps) : Calls Tryd.prog 19 #[.pointer (some ⟨q, 0, none⟩)] w fun e w' =>
    e = .returned (.tuple #[.agg (if isLoc s then locE s else Ev.zero).cells.toArray, .bool (isLoc s)]) ∧ Kc w' q v (if isLoc s then locS s else s) ∧ w.grownBy w' (some q) := by
  by_cases hl : isLoc s = true
  · rw [hl]
    exact klocal_yes q v s w h hg hl
  · have hl : isLoc s = false := by simpa using hl
    rw [hl]
    refine (klocal_not q v s w h hg hl).mono ?_
    rintro e w' ⟨rfl, hb⟩
    exact ⟨rfl, h.ext hb, gr_B (Below.refl _ _) ⟨hb.os, hb.tape, hb.output, hb.size, fun k hk _ => hb.block k hk⟩⟩
/-- What the core does beside the machine's step, whichever of them comes. -/
theorem both_stp {s : CoS} {M : Ma} (h : Ag s M) (hg : GoodP s.ps) (he : endB s.ps s.a = false) : ∃ (e : Ev) (s' : CoS), Stp s s' e (atI s.ps s.a.toNat) ∧ Ag s' (M.step 0 false).2 ∧ (isLoc s = true → e = locE s ∧ s' = locS s) ∧
    (isLoc s = false → ∀ (p : Nat) (v : Value) (W : World), Kc W p v s → Calls Tryd.prog 24 #[.pointer (some ⟨p, 0, none⟩), .int .i64 (M.step 0 false).1.va, .int .i64 (M.step 0 false).1.cd] W fun en w' => en = .returned (.tuple #[.agg e.cells.toArray, .int .i64 0]) ∧ Kc w' p v s' ∧ W.grownBy w' (some p)) := by
  by_cases hl : isLoc s = true
  · obtain ⟨h1, h2⟩ := loc_stp h hg hl false
    exact ⟨_, _, h1, h2, fun _ => ⟨rfl, rfl⟩, fun h3 => by rw [hl] at h3; cases h3⟩
  · obtain ⟨e, s', h1, h2, h3⟩ := ret_stp h hg he (by simpa using hl)
    exact ⟨e, s', h1, h2, fun h4 => absurd h4 hl, fun _ => h3⟩
section
variable (A : Option Addr) (l : List Ins) (c1 : Nat) (wo o0 o1 d0 d1 d2 d3 d4 d5 d6 d7 : Int) (w : World)
/-- A core beside a machine. -/
structure Pc (wr : World) (lo hi pm q : Nat) (v : Value) (s : CoS) (M : Ma) : Prop where
  be : Below w.heap.size w wr
  job : wr.heap[w.heap.size]? = some (.cells #[.slice A l.length c1, .int .i64 wo, .int .i64 o0, .int .i64 o1, .int .i64 d0, .int .i64 d1, .int .i64 d2, .int .i64 d3, .int .i64 d4, .int .i64 d5, .int .i64 d6, .int .i64 d7] 99 (0, 0))
  mc : Mc wr lo hi pm M
  kc : Kc wr q v s
  ag : Ag s M
  gd : M.Good
  nc : M.nc = 1
  ps : s.ps = l
  gp : GoodP l
  ov : s.ov = endB s.ps s.a
  a0 : 0 ≤ s.a ∧ s.a ≤ l.length
  ap : w.heap.size < lo ∧ hi ≤ q ∧ ∀ g, v.ownBlock = some g → hi ≤ g ∧ g < q
variable {A l c1 wo o0 o1 d0 d1 d2 d3 d4 d5 d6 d7 w}
theorem Pc.ext {wr wn : World} {lo hi pm q : Nat} {v : Value} {s : CoS} {M : Ma} (h : Pc A l c1 wo o0 o1 d0 d1 d2 d3 d4 d5 d6 d7 w wr lo hi pm q v s M) (hb : Below wr.heap.size wr wn) : Pc A l c1 wo o0 o1 d0 d1 d2 d3 d4 d5 d6 d7 w wn lo hi pm q v s M :=
  ⟨ext_trans h.be hb, (hb.block _ (lt_of h.job)).trans h.job, h.mc.ext hb, h.kc.ext hb, h.ag, h.gd, h.nc, h.ps, h.gp, h.ov, h.a0, h.ap⟩
/-- A store to a box that lies behind the core. -/
theorem Pc.box {wr wn : World} {lo hi pm q b : Nat} {v : Value} {s : CoS} {M : Ma} (h : Pc A l c1 wo o0 o1 d0 d1 d2 d3 d4 d5 d6 d7 w wr lo hi pm q v s M) (hg : wr.grownBy wn (some b)) (hb : q < b) : Pc A l c1 wo o0 o1 d0 d1 d2 d3 d4 d5 d6 d7 w wn lo hi pm q v s M := by
  have hap := h.ap
  have hsz := h.mc.sz
  exact ⟨h.be.grown hg h.be.size (fun k e => by cases e; omega), (hg.block _ (lt_of h.job) (fun e => by have := Option.some.inj e; omega)).trans h.job, h.mc.keep (fun k h1 h2 => hg.block k (by omega) (fun e => by have := Option.some.inj e; omega)) hg.size, h.kc.oth hg hb (fun g e => (hap.2.2 g e).2), h.ag, h.gd, h.nc, h.ps, h.gp, h.ov, h.a0, h.ap⟩
/-- The machine's step and the core's, one behind the other. -/
theorem Pc.step {wr w1 wn : World} {lo hi pm q : Nat} {v : Value} {s s' : CoS} {M M' : Ma} (h : Pc A l c1 wo o0 o1 d0 d1 d2 d3 d4 d5 d6 d7 w wr lo hi pm q v s M) (hM : Mc w1 lo hi pm M') (hr : Rg lo hi wr w1) (hK : Kc wn q v s') (hg : w1.grownBy wn (some q))
    (ha : Ag s' M') (hgd : M'.Good) (hnc : M'.nc = M.nc) (hps : s'.ps = s.ps) (hov : s'.ov = endB s'.ps s'.a) (ha0 : 0 ≤ s'.a ∧ s'.a ≤ l.length) : Pc A l c1 wo o0 o1 d0 d1 d2 d3 d4 d5 d6 d7 w wn lo hi pm q v s' M' := by
  have hj := lt_of h.job
  have hap := h.ap
  have hsz := hM.sz
  have hl := h.mc.sz
  refine ⟨⟨hg.os.trans (hr.os.trans h.be.os), hg.tape.trans (hr.tape.trans h.be.tape), hg.output.trans (hr.output.trans h.be.output), Nat.le_trans h.be.size (Nat.le_trans hr.size hg.size), fun k hk => ?_⟩, ?_, hM.keep (fun k h1 h2 => hg.block k (by omega) (fun e => by cases e; omega)) hg.size, hK, ha, hgd, hnc.trans h.nc, hps.trans h.ps, h.gp, hov, ha0, h.ap⟩
  · have := h.be.size
    have := hr.size
    exact (hg.block k (by omega) (fun e => by cases e; omega)).trans ((hr.block k (by omega) (.inl (by omega))).trans (h.be.block k hk))
  · have := hr.size
    exact (hg.block _ (by omega) (fun e => by cases e; omega)).trans ((hr.block _ hj (.inl hap.1)).trans h.job)
variable (A l c1 wo o0 o1 d0 d1 d2 d3 d4 d5 d6 d7 w)
set_option maxRecDepth 100000 in
set_option maxHeartbeats 4000000 in
theorem coreplaces (hL : Lims w) (hO : Ops w) (hA : SlN w A l) (hA0 : A = none → l.length = 0 ∧ c1 = 0) :
    Calls Tryd.prog 13 #[.agg #[.slice A l.length c1, .int .i64 wo, .int .i64 o0, .int .i64 o1, .int .i64 d0, .int .i64 d1, .int .i64 d2, .int .i64 d3, .int .i64 d4, .int .i64 d5, .int .i64 d6, .int .i64 d7]] w fun e w' => e = .returned (.bool true) ∧ Below w.heap.size w w' := by
  have hb0 : Below w.heap.size w (w.alloc (.cells #[.slice A l.length c1, .int .i64 wo, .int .i64 o0, .int .i64 o1, .int .i64 d0, .int .i64 d1, .int .i64 d2, .int .i64 d3, .int .i64 d4, .int .i64 d5, .int .i64 d6, .int .i64 d7] 99)) := ext_alloc _ (Below.refl _ _)
  have HJ := Lib.hid (show (w.alloc (.cells #[.slice A l.length c1, .int .i64 wo, .int .i64 o0, .int .i64 o1, .int .i64 d0, .int .i64 d1, .int .i64 d2, .int .i64 d3, .int .i64 d4, .int .i64 d5, .int .i64 d6, .int .i64 d7] 99)).heap[w.heap.size]? = _ from alNew rfl)
  have HB0 := Lib.hid hb0
  have HAW := Lib.hid (fun (W : World) (hb : Below w.heap.size w W) => awake15 W (hO.ext hb))
  have HMD := Lib.hid (made15 A l c1 wo o0 o1 d0 d1 d2 d3 d4 d5 d6 d7 (w.alloc (.cells #[.slice A l.length c1, .int .i64 wo, .int .i64 o0, .int .i64 o1, .int .i64 d0, .int .i64 d1, .int .i64 d2, .int .i64 d3, .int .i64 d4, .int .i64 d5, .int .i64 d6, .int .i64 d7] 99)) (hL.ext hb0) (hO.ext hb0) (hA.ext hb0) hA0)
  have HL := Lib.hid hL
  have HA := Lib.hid hA
  clear hL hO hA hA0 hb0
  by_cases hn : 40 < l.length
  · have en : decide ((l.length : Int) > 40) = true := by simp; omega
    clear hn
    go_enter Tryd.func13, Tryd.ntmps13
    go_wp2_with fail
    refine (HAW.out _ HB0.out).mono ?_
    rintro e w1 ⟨rfl, hb⟩
    have HB1 := Lib.hid (ext_trans HB0.out hb)
    clear hb
    go_wp2_with fail
    go_ret
    exact ⟨rfl, HB1.out⟩
  have en : decide ((l.length : Int) > 40) = false := by simp; omega
  have HLE := Lib.hid (show l.length ≤ 40 by omega)
  have hl40 : (l.length : Int) ≤ 40 := by omega
  clear hn
  go_enter Tryd.func13, Tryd.ntmps13
  go_wp2_with fail
  refine HMD.out.mono ?_
  rintro e w1 ⟨⟨q, v, p, lo, hi, rfl, hne, hn11, hK, hM, hlo, hq, hv⟩ | ⟨x, y, rfl⟩, hb⟩
  case inr =>
    have HB1 := Lib.hid (ext_trans HB0.out hb)
    clear hb
    go_wp2_with fail
    refine (HAW.out _ HB1.out).mono ?_
    rintro e w2 ⟨rfl, hb⟩
    have HB2 := Lib.hid (ext_trans HB1.out hb)
    clear hb
    go_wp2_with fail
    go_ret
    exact ⟨rfl, HB2.out⟩
  have HP := Lib.hid (show Pc A l c1 wo o0 o1 d0 d1 d2 d3 d4 d5 d6 d7 w w1 lo hi p q v _ _ from ⟨ext_trans HB0.out hb, (hb.block _ (by simp)).trans HJ.out, hM, hK, ⟨rfl, rfl, rfl, fun i hi => rfl⟩, Ma.Good.new hn11, rfl, rfl, good_new' hne, rfl, ⟨Int.le_refl _, by simp⟩, ⟨by simp at hlo; omega, hq, hv⟩⟩)
  clear hne hn11 hK hM hlo hq hv hb HMD HJ HB0
  go_wp2_with fail
  go_loopg [6] 60 (fun g s6 wr => ∃ (i : Nat) (s : CoS) (M : Ma), s6 = .int .i64 i ∧ i + g = 60 ∧ Hid (Pc A l c1 wo o0 o1 d0 d1 d2 d3 d4 d5 d6 d7 w wr lo hi p q v s M))
  case atStart => exact ⟨0, _, _, rfl, rfl, HP⟩
  case round =>
    obtain ⟨i, s, M, rfl, hk, HR⟩ := hrel
    clear HP
    by_cases hlt : i < 60
    case neg =>
      have ek : decide ((i : Int) < 60) = false := by simp; omega
      clear hlt hk
      go_wp2_with fail
      refine (HAW.out _ HR.out.be).mono ?_
      rintro e w2 ⟨rfl, hb⟩
      have HB2 := Lib.hid (ext_trans HR.out.be hb)
      clear hb
      go_wp2_with fail
      go_ret
      exact ⟨rfl, HB2.out⟩
    have ek : decide ((i : Int) < 60) = true := by simp; omega
    have hi60 : (i : Int) ≤ 60 := by omega
    have HLT := Lib.hid (And.intro hk hlt)
    clear hk hlt
    obtain ⟨ka, hka⟩ : ∃ ka : Nat, s.a = ka := ⟨s.a.toNat, by have := HR.out.a0; omega⟩
    have hkl : ka ≤ l.length := by have := HR.out.a0; omega
    have hk40 : (ka : Int) ≤ 40 := by omega
    have hj := HR.out.job
    obtain ⟨j0, j1⟩ := (job_in hj).2.2
    have jl := lt_of hj
    obtain ⟨r0, r1, r2, r3, r4, r5, r6, r7⟩ := HR.out.kc.cells
    have rl := HR.out.kc.lt
    rw [hka] at r4
    clear hj
    by_cases he : endB s.ps s.a = true
    · rw [HR.out.ov, he] at r6
      have HNX := Lib.hid (knext_end q v s wr HR.out.kc he)
      unfold endB at he
      rw [HR.out.ps, hka] at he
      by_cases hal : l.length ≤ ka
      · have e1 : decide (l.length ≤ ka) = true := by simpa using hal
        have e2 : decide ((ka : Int) ≥ (l.length : Int)) = true := by simp; omega
        clear he hkl hal
        go_wp2_with fail
        refine HNX.out.mono ?_
        rintro e w2 ⟨rfl, hb⟩
        have HB2 := Lib.hid (ext_trans HR.out.be hb)
        obtain ⟨hc2, hf2⟩ := bcell hb
        have jl2 := Nat.lt_of_lt_of_le jl hb.size
        have rl2 := Nat.lt_of_lt_of_le rl hb.size
        clear hb
        go_wp2_with fail
        refine region_past (by kernel_rfl) (by kernel_rfl) ?_; (repeat (go_big_quiet_step (fail))); refine wpQuiet_nil ?_; rintro _ ⟨pz, rfl⟩
        go_wp2_with fail
        refine (HAW.out _ (ext_past pz (show Below w.heap.size w _ from ext_alloc _ HB2.out))).mono ?_
        rintro e w3 ⟨rfl, hb⟩
        have HB3 := Lib.hid (ext_trans (ext_past pz (show Below w.heap.size w _ from ext_alloc _ HB2.out)) hb)
        clear hb
        go_wp2_with fail
        go_ret
        exact ⟨rfl, HB3.out⟩
      · have hop : (atI l ka).op = 11 := by simp at he; omega
        have hlt : ka < l.length := by omega
        have e1 : decide (l.length ≤ ka) = false := by simpa using hal
        have e2 : decide ((ka : Int) ≥ (l.length : Int)) = false := by simp; omega
        obtain ⟨bA, oA, hAA, hbA, hcA⟩ := HA.out (by omega)
        have hp0 := (HR.out.be.cell (p := ⟨bA, oA + ka * 4, none⟩) hbA).trans (hcA ka hlt).1
        have hbl := Nat.lt_of_lt_of_le hbA HR.out.be.size
        have hlk : (ka : Int) < (l.length : Int) := by omega
        rw [hop] at hp0
        subst hAA
        clear he hkl hal hlt hop hcA
        go_wp2_with fail
        refine HNX.out.mono ?_
        rintro e w2 ⟨rfl, hb⟩
        have HB2 := Lib.hid (ext_trans HR.out.be hb)
        obtain ⟨hc2, hf2⟩ := bcell hb
        have jl2 := Nat.lt_of_lt_of_le jl hb.size
        have rl2 := Nat.lt_of_lt_of_le rl hb.size
        have hbl2 := Nat.lt_of_lt_of_le hbl hb.size
        clear hb
        go_wp2_with fail
        refine region_past (by kernel_rfl) (by kernel_rfl) ?_; (repeat (go_big_quiet_step (fail))); refine wpQuiet_nil ?_; rintro _ ⟨pz, rfl⟩
        go_wp2_with fail
        refine (HAW.out _ (ext_past pz (show Below w.heap.size w _ from ext_alloc _ HB2.out))).mono ?_
        rintro e w3 ⟨rfl, hb⟩
        have HB3 := Lib.hid (ext_trans (ext_past pz (show Below w.heap.size w _ from ext_alloc _ HB2.out)) hb)
        clear hb
        go_wp2_with fail
        go_ret
        exact ⟨rfl, HB3.out⟩
    · have he : endB s.ps s.a = false := by simpa using he
      rw [HR.out.ov, he] at r6
      have HNX := Lib.hid (knext_ok q v s wr HR.out.kc he)
      have HE := Lib.hid he
      unfold endB at he
      rw [HR.out.ps, hka] at he
      have hlt : ka < l.length := by simp at he; omega
      have hop : ((atI l ka).op == 11) = false := by simp at he ⊢; omega
      have e1 : decide (l.length ≤ ka) = false := by simp; omega
      have e2 : decide ((ka : Int) ≥ (l.length : Int)) = false := by simp; omega
      obtain ⟨bA, oA, hAA, hbA, hcA⟩ := HA.out (by omega)
      have hp0 := (HR.out.be.cell (p := ⟨bA, oA + ka * 4, none⟩) hbA).trans (hcA ka hlt).1
      have hbl := Nat.lt_of_lt_of_le hbA HR.out.be.size
      have hlk : (ka : Int) < (l.length : Int) := by omega
      have hxe : atI s.ps s.a.toNat = atI l ka := by rw [HR.out.ps, hka, Int.toNat_natCast]
      rw [hxe] at HNX
      have HXE := Lib.hid hxe
      obtain ⟨x, hx⟩ : ∃ x, x = atI l ka := ⟨_, rfl⟩
      rw [← hx] at HNX hop hp0
      have HRG : Hid (x.op = 10 → ∃ i : Nat, x.a = i ∧ i < 4) := Lib.hid (fun h => by
        obtain ⟨x', hx', _, _, g1, _⟩ := good_at HR.out.gp hlt
        rw [hx] at h ⊢
        rw [hx'] at h ⊢
        exact g1 (.inr h))
      have HX := Lib.hid hx
      obtain ⟨xo, xa, xb, xc⟩ := x
      dsimp only at hop hp0
      subst hAA
      clear he hkl hlt hcA hxe hx
      go_wp2_with fail
      refine HNX.out.mono ?_
      rintro e w2 ⟨rfl, hb⟩
      have HR2 := Lib.hid (HR.out.ext hb)
      obtain ⟨hc2, hf2⟩ := bcell hb
      have jl2 := Nat.lt_of_lt_of_le jl hb.size
      have rl2 := Nat.lt_of_lt_of_le rl hb.size
      have hbl2 := Nat.lt_of_lt_of_le hbl hb.size
      clear hb
      go_wp2_with fail
      refine region_past (by kernel_rfl) (by kernel_rfl) ?_; (repeat (go_big_quiet_step (fail))); refine wpQuiet_nil ?_; rintro _ ⟨pz, rfl⟩
      go_wp2_with fail
      obtain ⟨W3, hW3⟩ : ∃ W, W = pz.val.alloc (.cells #[.int .i64 (s.r 0), .int .i64 (s.r 1), .int .i64 (s.r 2), .int .i64 (s.r 3), .int .i64 ka, .int .i64 s.wo, .bool false] 32) := ⟨_, rfl⟩
      rw [← hW3]
      have hB3 : Below w2.heap.size w2 W3 := by rw [hW3]; exact ext_alloc _ (ext_past pz (ext_alloc _ (Below.refl _ w2)))
      have hX3 : W3.heap[w2.heap.size]? = some (.cells #[.int .i64 xo, .int .i64 xa, .int .i64 xb, .int .i64 xc] 36 (0, 0)) := by rw [hW3]; exact alOld ((pz.block _ (by simp)).trans (alNew rfl))
      have hY3 : W3.heap[pz.val.heap.size]? = some (.cells #[.int .i64 (s.r 0), .int .i64 (s.r 1), .int .i64 (s.r 2), .int .i64 (s.r 3), .int .i64 ka, .int .i64 s.wo, .bool false] 32 (0, 0)) := by rw [hW3]; exact alNew rfl
      have hbw : w2.heap.size < pz.val.heap.size := by have := pz.size; simp at this; omega
      have HR3 := Lib.hid (HR2.out.ext hB3)
      have HXY := Lib.hid (And.intro hX3 hY3)
      have HBW := Lib.hid hbw
      have hq2 : q < w2.heap.size := rl2
      have hh2 : hi ≤ w2.heap.size := HR2.out.mc.sz.1
      have hst := astep_all HR3.out.mc HR3.out.gd (HL.out.ext HR3.out.be) 0 false
      rw [stepA_zero HR3.out.ag HR3.out.gd HR3.out.nc HE.out] at hst
      obtain ⟨e9, s9, hS9, hA9, hl9, hr9⟩ := both_stp (M := M) HR3.out.ag (by rw [HR3.out.ps]; exact HR3.out.gp) HE.out
      rw [HXE.out, ← HX.out] at hS9
      have hg9 := HR3.out.gd.step 0 false
      have hn9 : (M.step 0 false).2.nc = M.nc := by unfold Ma.nc; rw [step_c]
      generalize M.step 0 false = sv at hst hA9 hr9 hg9 hn9
      obtain ⟨⟨v0, v1, v2, v3, v4, v5, v6⟩, M9⟩ := sv
      dsimp only at hst hA9 hr9 hg9 hn9
      have HS9 := Lib.hid hS9
      have HA9 := Lib.hid (And.intro hA9 (And.intro hg9 hn9))
      have HL9 := Lib.hid hl9
      have HR9 := Lib.hid hr9
      have HQH := Lib.hid (And.intro hq2 hh2)
      have HZ3 := Lib.hid (lt_of hY3)
      clear hW3 hB3 hX3 hY3 hbw hS9 hA9 hg9 hn9 hl9 hr9 hq2 hh2 r0 r1 r2 r3 r4 r5 r6 r7 hc2 hf2 jl jl2 rl rl2 hp0 hbl hbl2 HNX HR HR2
      refine hst.mono ?_
      clear hst
      rintro e w4 ⟨rfl, hM, hr⟩
      have HX4 := Lib.hid ((hr.block _ (lt_of HXY.out.1) (.inr HQH.out.2)).trans HXY.out.1)
      have HY4 := Lib.hid ((hr.block _ (lt_of HXY.out.2) (.inr (Nat.le_trans HQH.out.2 (Nat.le_of_lt HBW.out)))).trans HXY.out.2)
      have HK4 := Lib.hid (HR3.out.kc.rg hr HR3.out.ap.2.1 (fun g hg => (HR3.out.ap.2.2 g hg).1))
      have HM4 := Lib.hid (And.intro hM hr)
      clear hM hr
      go_wp2_with fail
      obtain ⟨W5, hW5⟩ : ∃ W, W = w4.alloc (.cells #[.int .i64 v0, .int .i64 v1, .int .i64 v2, .int .i64 v3, .int .i64 v4, .int .i64 v5, .int .i64 v6] 42) := ⟨_, rfl⟩
      rw [← hW5]
      have hN5 : W5.heap[w4.heap.size]? = some (.cells #[.int .i64 v0, .int .i64 v1, .int .i64 v2, .int .i64 v3, .int .i64 v4, .int .i64 v5, .int .i64 v6] 42 (0, 0)) := by rw [hW5]; exact alNew rfl
      have hB5 : Below w4.heap.size w4 W5 := by rw [hW5]; exact ext_alloc _ (Below.refl _ _)
      have hlc := local_any q v W5 (HK4.out.ext hB5) (by rw [HR3.out.ps]; exact HR3.out.gp)
      obtain ⟨e1, he1⟩ : ∃ e, e = (if isLoc s then locE s else Ev.zero) := ⟨_, rfl⟩
      obtain ⟨s6, hs6⟩ : ∃ t, t = (if isLoc s then locS s else s) := ⟨_, rfl⟩
      obtain ⟨d, hd⟩ : ∃ d, d = isLoc s := ⟨_, rfl⟩
      rw [← he1, ← hs6, ← hd] at hlc
      have HE1 := Lib.hid (And.intro he1 (And.intro hs6 hd))
      obtain ⟨y0, y1, y2, y3, y4, y5, y6⟩ := e1
      have hlc : Calls Tryd.prog 19 #[.pointer (some ⟨q, 0, none⟩)] W5 fun e w' => e = .returned (.tuple #[.agg #[.int .i64 y0, .int .i64 y1, .int .i64 y2, .int .i64 y3, .int .i64 y4, .int .i64 y5, .int .i64 y6], .bool d]) ∧ Kc w' q v s6 ∧ W5.grownBy w' (some q) := hlc
      have HN5 := Lib.hid (And.intro hN5 hB5)
      clear hW5 hN5 hB5 he1 hs6 hd
      refine hlc.mono ?_
      clear hlc
      rintro e w6 ⟨rfl, hK, hg⟩
      have HK6 := Lib.hid (And.intro hK hg)
      have HX6 := Lib.hid ((hg.block _ (Nat.lt_of_lt_of_le (lt_of HX4.out) HN5.out.2.size) (fun e => by have := Option.some.inj e; have := HQH.out.1; omega)).trans ((HN5.out.2.block _ (lt_of HX4.out)).trans HX4.out))
      have HY6 := Lib.hid ((hg.block _ (Nat.lt_of_lt_of_le (lt_of HY4.out) HN5.out.2.size) (fun e => by have := Option.some.inj e; have := HQH.out.1; have := HBW.out; omega)).trans ((HN5.out.2.block _ (lt_of HY4.out)).trans HY4.out))
      have HN6 := Lib.hid ((hg.block _ (lt_of HN5.out.1) (fun e => by have := Option.some.inj e; have := HK4.out.lt; omega)).trans HN5.out.1)
      clear hK hg
      go_upto_if 95 with (fail)
      obtain ⟨W7, hW7⟩ : ∃ W, W = w6.alloc (.cells #[.int .i64 y0, .int .i64 y1, .int .i64 y2, .int .i64 y3, .int .i64 y4, .int .i64 y5, .int .i64 y6] 42) := ⟨_, rfl⟩
      rw [← hW7]
      have hE7 : W7.heap[w6.heap.size]? = some (.cells #[.int .i64 y0, .int .i64 y1, .int .i64 y2, .int .i64 y3, .int .i64 y4, .int .i64 y5, .int .i64 y6] 42 (0, 0)) := by rw [hW7]; exact alNew rfl
      have hB7 : Below w6.heap.size w6 W7 := by rw [hW7]; exact ext_alloc _ (Below.refl _ _)
      have HX7 := Lib.hid ((hB7.block _ (lt_of HX6.out)).trans HX6.out)
      have HY7 := Lib.hid ((hB7.block _ (lt_of HY6.out)).trans HY6.out)
      have HN7 := Lib.hid ((hB7.block _ (lt_of HN6.out)).trans HN6.out)
      have HE7 := Lib.hid (And.intro hE7 hB7)
      obtain ⟨z0, z1, z2, z3, z4, z5, z6⟩ := e9
      -- the core and the machine behind both steps
      have hPC : ∀ (wn : World), Kc wn q v s9 → W7.grownBy wn (some q) → Pc (some ⟨bA, oA, none⟩) l c1 wo o0 o1 d0 d1 d2 d3 d4 d5 d6 d7 w wn lo hi p q v s9 M9 := fun wn hK hg => by
        have hg6 : w4.grownBy wn (some q) := gr_B HN5.out.2 (gr_two HK6.out.2 (gr_B HE7.out.2 hg))
        have hpe : s9.ps = s.ps := HS9.out.ps
        have htb := toI_bd (s := s) (by rw [HR3.out.ps]; exact HR3.out.gp) HE.out
        rw [HXE.out, ← HX.out, HR3.out.ps] at htb
        exact HR3.out.step HM4.out.1 HM4.out.2 hK hg6 HA9.out.1 HA9.out.2.1 HA9.out.2.2 hpe HS9.out.ov (by rw [HS9.out.a]; exact htb)
      have HPC := Lib.hid hPC
      clear hPC hW7 hE7 hB7
      go_cut [] from 94 to 104 (fun wc => Hid (Pc (some ⟨bA, oA, none⟩) l c1 wo o0 o1 d0 d1 d2 d3 d4 d5 d6 d7 w wc lo hi p q v s9 M9 ∧ wc.heap[w2.heap.size]? = some (.cells #[.int .i64 xo, .int .i64 xa, .int .i64 xb, .int .i64 xc] 36 (0, 0)) ∧
        wc.heap[pz.val.heap.size]? = some (.cells #[.int .i64 (s.r 0), .int .i64 (s.r 1), .int .i64 (s.r 2), .int .i64 (s.r 3), .int .i64 ka, .int .i64 s.wo, .bool false] 32 (0, 0)) ∧
        wc.heap[w6.heap.size]? = some (.cells #[.int .i64 z0, .int .i64 z1, .int .i64 z2, .int .i64 z3, .int .i64 z4, .int .i64 z5, .int .i64 z6] 42 (0, 0))))
      case first =>
        cases d
        · have hs : s6 = s := by rw [HE1.out.2.1, ← HE1.out.2.2]; rfl
          have hrt := HR9.out HE1.out.2.2.symm q v W7 (by rw [← hs]; exact HK6.out.1.ext HE7.out.2)
          have hrt : Calls Tryd.prog 24 #[.pointer (some ⟨q, 0, none⟩), .int .i64 v5, .int .i64 v6] W7 fun en w' => en = .returned (.tuple #[.agg #[.int .i64 z0, .int .i64 z1, .int .i64 z2, .int .i64 z3, .int .i64 z4, .int .i64 z5, .int .i64 z6], .int .i64 0]) ∧ Kc w' q v s9 ∧ W7.grownBy w' (some q) := hrt
          have HRT := Lib.hid hrt
          obtain ⟨n0, n1, n2, n3, n4, n5, n6, nf, nl⟩ := ev_cells HN7.out
          obtain ⟨m0, m1, m2, m3, m4, m5, m6, mf, ml⟩ := ev_cells HE7.out.1
          clear hrt
          go_wp2_with fail
          refine HRT.out.mono ?_
          rintro e w8 ⟨rfl, hK, hg⟩
          have hX8 := (hg.block _ (lt_of HX7.out) (fun e => by have := Option.some.inj e; have := HQH.out.1; omega)).trans HX7.out
          have hY8 := (hg.block _ (lt_of HY7.out) (fun e => by have := Option.some.inj e; have := HQH.out.1; have := HBW.out; omega)).trans HY7.out
          have hE8 := (hg.block _ (lt_of HE7.out.1) (fun e => by have := Option.some.inj e; have := HK6.out.1.lt; omega)).trans HE7.out.1
          have HP8 := Lib.hid (HPC.out _ hK hg)
          have HXY8 := Lib.hid (And.intro hX8 (And.intro hY8 hE8))
          clear hK hg hX8 hY8 n0 n1 n2 n3 n4 n5 n6 nf nl m0 m1 m2 m3 m4 m5 m6 mf ml
          obtain ⟨m0, m1, m2, m3, m4, m5, m6, mf, ml⟩ := ev_cells hE8
          clear hE8
          go_wp2_with fail
          go_meet
          have hg7 := set7_grown w8 w6.heap.size (.int .i64 z0) (.int .i64 z1) (.int .i64 z2) (.int .i64 z3) (.int .i64 z4) (.int .i64 z5) (.int .i64 z6)
          have hx7 := set7_blk (.int .i64 z0) (.int .i64 z1) (.int .i64 z2) (.int .i64 z3) (.int .i64 z4) (.int .i64 z5) (.int .i64 z6) HXY8.out.2.2
          unfold set7 at hg7 hx7
          have h6 : w2.heap.size < w6.heap.size ∧ pz.val.heap.size < w6.heap.size := ⟨lt_of HX6.out, lt_of HY6.out⟩
          exact Lib.hid ⟨HP8.out.box hg7 HK6.out.1.lt, (hg7.block _ (lt_of HXY8.out.1) (fun e => by have := Option.some.inj e; omega)).trans HXY8.out.1, (hg7.block _ (lt_of HXY8.out.2.1) (fun e => by have := Option.some.inj e; omega)).trans HXY8.out.2.1, hx7⟩
        · have hs : s6 = s9 ∧ (⟨z0, z1, z2, z3, z4, z5, z6⟩ : Ev) = ⟨y0, y1, y2, y3, y4, y5, y6⟩ := by
            obtain ⟨h1, h2⟩ := HL9.out HE1.out.2.2.symm
            refine ⟨?_, ?_⟩
            · rw [HE1.out.2.1, ← HE1.out.2.2, h2]; rfl
            · rw [HE1.out.1, ← HE1.out.2.2, h1]; rfl
          obtain ⟨hs, hz⟩ := hs
          injection hz with z0e z1e z2e z3e z4e z5e z6e
          go_wp2_with fail
          go_meet
          refine Lib.hid ⟨HPC.out _ (by rw [← hs]; exact HK6.out.1.ext HE7.out.2) ⟨rfl, rfl, rfl, Nat.le_refl _, fun _ _ _ => rfl⟩, HX7.out, HY7.out, ?_⟩
          rw [z0e, z1e, z2e, z3e, z4e, z5e, z6e]
          exact HE7.out.1
      case rest =>
        have HC := hcut
        clear hcut HX4 HY4 HK4 HM4 HN5 HE1 HK6 HX6 HY6 HN6 HX7 HY7 HN7 HE7 HPC HR3 HXY HL9 HR9 HA9
        obtain ⟨k0, k1, k2, k3, k4, k5, k6, k7⟩ := HC.out.1.kc.cells
        obtain ⟨a0, a1, a2, a3, _, xal⟩ := four_cells HC.out.2.1
        obtain ⟨b0, b1, b2, b3, b4, b5, b6, _, xbl⟩ := ev_cells HC.out.2.2.1
        obtain ⟨f0, f1, f2, f3, f4, f5, f6, _, xfl⟩ := ev_cells HC.out.2.2.2
        have ql := HC.out.1.kc.lt
        obtain ⟨t1, ht1⟩ : ∃ t : Int, t = if xo = 9 then xa else (ka : Int) + 1 := ⟨_, rfl⟩
        have HT1 := Lib.hid ht1
        clear ht1
        go_step
        go_upto_if 110 with (fail)
        go_cut [14] from 111 to 112 (fun s14 wd => s14 = .int .i64 t1 ∧ wd = wc)
        case first =>
          by_cases h9 : xo = 9
          · have e9 : (xo == 9) = true := by simpa using h9
            go_wp2_with fail
            go_meet
            exact ⟨by rw [HT1.out, if_pos h9], rfl⟩
          · have e9 : (xo == 9) = false := by simpa using h9
            go_wp2_with fail
            go_meet
            exact ⟨by rw [HT1.out, if_neg h9], rfl⟩
        case rest =>
        obtain ⟨rfl, hwc⟩ := hcut
        subst hwc
        iterate 2 go_step
        obtain ⟨t2, ht2⟩ : ∃ t : Int, t = toI s ⟨xo, xa, xb, xc⟩ := ⟨_, rfl⟩
        have HT2 := Lib.hid ht2
        clear ht2
        have HK : Hid (s.a = (ka : Int)) := Lib.hid hka
        go_cut [14] from 113 to 125 (fun s14 wd => s14 = .int .i64 t2 ∧ wd = wc)
        case first =>
          have HT2 := HT2.out
          unfold toI at HT2
          dsimp only at HT2
          by_cases h10 : xo = 10
          · have e10 : (xo == 10) = true := by simpa using h10
            obtain ⟨ri, hri, hr4⟩ := HRG.out h10
            have hrv : wc.cell? ⟨pz.val.heap.size, ri, none⟩ = some (.int .i64 (s.r ri)) := by
              have : ri = 0 ∨ ri = 1 ∨ ri = 2 ∨ ri = 3 := by omega
              rcases this with rfl | rfl | rfl | rfl
              · exact b0
              · exact b1
              · exact b2
              · exact b3
            have hr4' : (ri : Int) < 4 := by omega
            rw [hri] at a1
            by_cases hz : s.r ri = 0
            · have ez : (s.r ri == 0) = true := by simpa using hz
              rw [if_pos ⟨h10, by rw [hri, Int.toNat_natCast]; exact hz⟩] at HT2
              have HT2 := Lib.hid HT2
              clear hri hz
              go_wp2_with fail
              go_meet
              exact ⟨by rw [HT2.out], rfl⟩
            · have ez : (s.r ri == 0) = false := by simpa using hz
              rw [if_neg (by rw [hri, Int.toNat_natCast]; exact fun h => hz h.2), if_neg (by omega)] at HT2
              have HT2 := Lib.hid HT2
              have HT19 := HT1.out
              rw [if_neg (by omega)] at HT19
              have HT19 := Lib.hid HT19
              clear hri hz
              go_wp2_with fail
              go_meet
              exact ⟨by rw [HT2.out, HT19.out, HK.out], rfl⟩
          · have e10 : (xo == 10) = false := by simpa using h10
            have e12 : t2 = t1 := by rw [HT2, HT1.out, if_neg (fun h => h10 h.1), HK.out]
            have E12 := Lib.hid e12
            clear e12 HT2
            go_wp2_with fail
            go_meet
            exact ⟨by rw [E12.out], rfl⟩
        case rest =>
        obtain ⟨rfl, hwc⟩ := hcut
        subst hwc
        obtain ⟨b35, hb35⟩ : ∃ b : Bool, b = (decide (xo ≤ 3) || xo == 5) := ⟨_, rfl⟩
        have HB35 := Lib.hid hb35
        clear hb35
        obtain ⟨t4, ht4⟩ : ∃ t : Int, t = wrI ⟨xo, xa, xb, xc⟩ := ⟨_, rfl⟩
        have HT4 := Lib.hid ht4
        clear ht4
        go_step
        go_upto_region 24 with (fail)
        go_cut [133] from 126 to 133 (fun s133 wd => s133 = .bool b35 ∧ wd = wc)
        case first =>
          by_cases h3 : xo ≤ 3
          · have e3 : decide (xo ≤ 3) = true := by simpa using h3
            have HB := HB35.out
            rw [e3] at HB
            have HB := Lib.hid (show b35 = true from HB)
            go_wp2_with fail
            go_meet
            exact ⟨by rw [HB.out], rfl⟩
          · have e3 : decide (xo ≤ 3) = false := by simpa using h3
            have HB := HB35.out
            rw [e3] at HB
            have HB := Lib.hid (show b35 = (xo == 5) from HB)
            go_wp2_with fail
            go_meet
            exact ⟨by rw [HB.out], rfl⟩
        case rest =>
        obtain ⟨rfl, hwc⟩ := hcut
        subst hwc
        go_step
        go_cut [15] from 134 to 135 (fun s15 wd => s15 = .int .i64 (if b35 then xa else -1) ∧ wd = wc)
        case first =>
          cases b35
          · go_wp2_with fail
            go_meet
            exact ⟨rfl, rfl⟩
          · go_wp2_with fail
            go_meet
            exact ⟨rfl, rfl⟩
        case rest =>
        obtain ⟨rfl, hwc⟩ := hcut
        subst hwc
        obtain ⟨t3, ht3⟩ : ∃ t : Int, t = if b35 = true then xa else -1 := ⟨_, rfl⟩
        rw [← ht3]
        have HT3 := Lib.hid ht3
        clear ht3
        iterate 2 go_step
        go_cut [15] from 136 to 140 (fun s15 wd => s15 = .int .i64 t4 ∧ wd = wc)
        case first =>
          have h4 := HT4.out
          unfold wrI at h4
          dsimp only at h4
          by_cases h8 : xo = 8
          · have e8 : (xo == 8) = true := by simpa using h8
            rw [if_pos h8] at h4
            have H4 := Lib.hid h4
            clear h4
            go_wp2_with fail
            go_meet
            exact ⟨by rw [H4.out], rfl⟩
          · have e8 : (xo == 8) = false := by simpa using h8
            rw [if_neg h8] at h4
            have e4 : t4 = t3 := by
              rw [h4, HT3.out, HB35.out]
              by_cases h3 : xo ≤ 3 ∨ xo = 5
              · rw [if_pos h3, if_pos (by simpa using h3)]
              · rw [if_neg h3, if_neg (by simpa using h3)]
            have H4 := Lib.hid e4
            clear h4 e4
            go_wp2_with fail
            go_meet
            exact ⟨by rw [H4.out], rfl⟩
        case rest =>
        obtain ⟨rfl, hwc⟩ := hcut
        subst hwc
        go_step
        go_wp2_with fail
        go_loopg [16] 4 (fun g s16 wr => ∃ k : Nat, s16 = .int .i64 k ∧ k + g = 4 ∧ Hid (Below wc.heap.size wc wr))
        case atStart => exact ⟨0, rfl, rfl, Lib.hid (Below.refl _ _)⟩
        case round =>
          obtain ⟨k, rfl, hk, HX2⟩ := hrel
          have HC2 := Lib.hid (show Pc (some ⟨bA, oA, none⟩) l c1 wo o0 o1 d0 d1 d2 d3 d4 d5 d6 d7 w wr lo hi p q v s9 M9 ∧ wr.heap[w2.heap.size]? = _ ∧ wr.heap[pz.val.heap.size]? = _ ∧ wr.heap[w6.heap.size]? = _ from
            ⟨HC.out.1.ext HX2.out, (HX2.out.block _ (lt_of HC.out.2.1)).trans HC.out.2.1, (HX2.out.block _ (lt_of HC.out.2.2.1)).trans HC.out.2.2.1, (HX2.out.block _ (lt_of HC.out.2.2.2)).trans HC.out.2.2.2⟩)
          clear k0 k1 k2 k3 k4 k5 k6 k7 a0 a1 a2 a3 xal b0 b1 b2 b3 b4 b5 b6 xbl f0 f1 f2 f3 f4 f5 f6 xfl ql
          obtain ⟨k0, k1, k2, k3, k4, k5, k6, k7⟩ := HC2.out.1.kc.cells
          obtain ⟨a0, a1, a2, a3, _, xal⟩ := four_cells HC2.out.2.1
          obtain ⟨b0, b1, b2, b3, b4, b5, b6, _, xbl⟩ := ev_cells HC2.out.2.2.1
          obtain ⟨f0, f1, f2, f3, f4, f5, f6, _, xfl⟩ := ev_cells HC2.out.2.2.2
          have ql := HC2.out.1.kc.lt
          by_cases hk4 : k < 4
          · have e1 : decide ((k : Int) < 4) = true := by simp; omega
            have HKG := Lib.hid (And.intro hk hk4)
            have hk4' : (k : Int) < 4 := by omega
            by_cases hkt : (k : Int) = t4
            · have e2 : ((k : Int) != t4) = false := by simpa using hkt
              clear hk hk4 hkt
              go_wp2_with fail
              refine region_past (by kernel_rfl) (by kernel_rfl) ?_; (repeat (go_big_quiet_step (fail))); refine wpQuiet_nil ?_; rintro _ ⟨py, rfl⟩
              go_wp2_with fail
              go_roundg (4 - (k + 1))
              case measure => have := HKG.out; omega
              case rel => exact ⟨k + 1, by go_num, by have := HKG.out; omega, Lib.hid (ext_past py HX2.out)⟩
            · have e2 : ((k : Int) != t4) = true := by simpa using hkt
              have hrq := HC2.out.1.kc.reg k hk4
              rw [HS9.out.r k hk4 (by rw [← HT4.out]; exact hkt)] at hrq
              have hrw : wr.cell? ⟨pz.val.heap.size, k, none⟩ = some (.int .i64 (s.r k)) := by
                have : k = 0 ∨ k = 1 ∨ k = 2 ∨ k = 3 := by omega
                rcases this with rfl | rfl | rfl | rfl
                · exact b0
                · exact b1
                · exact b2
                · exact b3
              clear hk hk4 hkt
              go_wp2_with fail
              refine region_past (by kernel_rfl) (by kernel_rfl) ?_; (repeat (go_big_quiet_step (fail))); refine wpQuiet_nil ?_; rintro _ ⟨py, rfl⟩
              go_wp2_with fail
              go_roundg (4 - (k + 1))
              case measure => have := HKG.out; omega
              case rel => exact ⟨k + 1, by go_num, by have := HKG.out; omega, Lib.hid (ext_past py HX2.out)⟩
          · have e1 : decide ((k : Int) < 4) = false := by simp; omega
            have hsa := HS9.out.a
            rw [← HT2.out] at hsa
            have hea : z1 = (ka : Int) := HS9.out.ea.trans HK.out
            have hew : z3 = s.wo := HS9.out.ewo
            have heo : z2 = xo := HS9.out.eop
            rw [hsa] at k4
            rw [hea] at f1
            rw [hew] at f3
            rw [heo] at f2
            have hwo : (s9.wo != s.wo && xo != 7) = false := by
              by_cases h7 : xo = 7
              · simp [h7]
              · simp [HS9.out.wo h7]
            clear hk hk4 hsa hea hew heo
            cases e7 : (s9.wo != s.wo)
            · go_wp2_with fail
              refine region_past (by kernel_rfl) (by kernel_rfl) ?_; (repeat (go_big_quiet_step (fail))); refine wpQuiet_nil ?_; rintro _ ⟨py, rfl⟩
              go_wp2_with fail
              go_roundg (60 - (i + 1))
              case measure => have := HLT.out; omega
              case rel => exact ⟨i + 1, s9, M9, by go_num, by have := HLT.out; omega, Lib.hid (HC2.out.1.ext py.below)⟩
            · rw [e7] at hwo
              have e8 : (xo != 7) = false := by simpa using hwo
              clear hwo
              go_wp2_with fail
              refine region_past (by kernel_rfl) (by kernel_rfl) ?_; (repeat (go_big_quiet_step (fail))); refine wpQuiet_nil ?_; rintro _ ⟨py, rfl⟩
              go_wp2_with fail
              go_roundg (60 - (i + 1))
              case measure => have := HLT.out; omega
              case rel => exact ⟨i + 1, s9, M9, by go_num, by have := HLT.out; omega, Lib.hid (HC2.out.1.ext py.below)⟩
end
end Go.Proofs.YtkobeajbiendlaaDoor
