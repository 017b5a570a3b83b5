/- What this text holds: the law CoreRuns, walked. Condition: the table of ops holds what its initialiser lays. -/
import Derived.Test.YtkobeajbiendlaaDoorCoreH
import Derived.ChangeKeysEq
namespace Go.Proofs.YtkobeajbiendlaaDoor
open Go.RowKit

theorem info_int15 : (Tryd.prog.info? 3).map (fun i => (i.zero, i.size, i.bytes)) = some (some (.int .i64 0), 1, 8) := by kernel_rfl
theorem eqRegs (w : World) (a b c d : Int) (n : Nat) (hn : n = 9998 ∨ n = 9999) : (Op.equalIn n 30 (.agg #[.int .i64 a, .int .i64 b, .int .i64 c, .int .i64 d]) (.agg #[.int .i64 a, .int .i64 b, .int .i64 c, .int .i64 d])).run Tryd.prog w = .ok true w := by
  obtain ⟨i0, hi, hz0, hz1, hz2⟩ := info_parts info_int15
  have hc : Tryd.prog.cellsOf 3 = 1 := by kernel_rfl
  have hr : List.range 4 = [0, 1, 2, 3] := rfl
  rcases hn with rfl | rfl
  · rw [run_equalIn_array (P := Tryd.prog) w 9997 _ _ Tryd.underlying30 hi, hc, hr]
    simp only [Op.eqItems]
    go_simp
  · rw [run_equalIn_array (P := Tryd.prog) w 9998 _ _ Tryd.underlying30 hi, hc, hr]
    simp only [Op.eqItems]
    go_simp
theorem eqCore (w : World) (a b c d x y : Int) (z : Bool) : (binOp .eql 32 (.agg #[.int .i64 a, .int .i64 b, .int .i64 c, .int .i64 d, .int .i64 x, .int .i64 y, .bool z]) (.agg #[.int .i64 a, .int .i64 b, .int .i64 c, .int .i64 d, .int .i64 x, .int .i64 y, .bool z])).run Tryd.prog w = .ok (.bool true) w := by
  have h := fun w => eqRegs w a b c d 9999 (.inr rfl)
  go_simp
theorem neqCore (w : World) (a b c d x y : Int) (z : Bool) : (binOp .neq 32 (.agg #[.int .i64 a, .int .i64 b, .int .i64 c, .int .i64 d, .int .i64 x, .int .i64 y, .bool z]) (.agg #[.int .i64 a, .int .i64 b, .int .i64 c, .int .i64 d, .int .i64 x, .int .i64 y, .bool z])).run Tryd.prog w = .ok (.bool false) w := by
  have h := fun w => eqRegs w a b c d 9999 (.inr rfl)
  go_simp
theorem neqEv (w : World) (a b c d x y z : Int) : (binOp .neq 42 (.agg #[.int .i64 a, .int .i64 b, .int .i64 c, .int .i64 d, .int .i64 x, .int .i64 y, .int .i64 z]) (.agg #[.int .i64 a, .int .i64 b, .int .i64 c, .int .i64 d, .int .i64 x, .int .i64 y, .int .i64 z])).run Tryd.prog w = .ok (.bool false) w := by
  go_simp
theorem rlocal_ask (o : Int) (w : World) (h : o = 3 ∨ o = 4 ∨ o = 5 ∨ o = 8) : Calls Tryd.prog 21 #[.int .i64 o] w fun e w' => e = .returned (.bool false) ∧ w' = w := by
  rcases h with rfl | rfl | rfl | rfl
  · go_enter Tryd.func21, Tryd.ntmps21
    go_wp2
    go_ret
    exact ⟨rfl, rfl⟩
  · go_enter Tryd.func21, Tryd.ntmps21
    go_wp2
    go_ret
    exact ⟨rfl, rfl⟩
  · go_enter Tryd.func21, Tryd.ntmps21
    go_wp2
    go_ret
    exact ⟨rfl, rfl⟩
  · go_enter Tryd.func21, Tryd.ntmps21
    go_wp2
    go_ret
    exact ⟨rfl, rfl⟩
theorem Kc.other {w w' : World} {p q : Nat} {v : Value} {s : CoS} (h : Kc w q v s) (hg : w.grownBy w' (some p)) (hne : q ≠ p) (hv : ∀ g, v.ownBlock = some g → g ≠ p) : Kc w' q v s := by
  refine ⟨(hg.block q h.lt (fun e => hne (Option.some.inj e))).trans h.blk, ?_, h.ne⟩
  obtain ⟨A, c, rfl, h2, h3⟩ := h.pg
  refine ⟨A, c, rfl, fun h0 => ?_, h3⟩
  obtain ⟨b, off, hA, hl, _⟩ := h2 h0
  exact h2.keep (fun ad hA' => by
    rw [hA] at hA'
    obtain rfl := Option.some.inj hA'
    exact hg.block b hl (fun e => hv b (by rw [hA]; rfl) (Option.some.inj e))) h0

/-- A core, its twin, and what it ran. -/
structure Tw (w wr : World) (p q : Nat) (v v2 : Value) (s : CoS) (k i : Nat) (A : Option Addr) (c : Nat) : Prop where
  kp : Kc wr p v (runS s k)
  kq : Kc wr q v2 (runS s i)
  row : wr.ownsRow (q + 1) 42 7 (.slice A k c) k (flatV7 (runE s k))
  below : Below w.heap.size w wr
theorem Tw.ext {w wr w' : World} {p q : Nat} {v v2 : Value} {s : CoS} {k i : Nat} {A : Option Addr} {c : Nat} (h : Tw w wr p q v v2 s k i A c) (hb : Below wr.heap.size wr w') : Tw w w' p q v v2 s k i A c :=
  ⟨h.kp.ext hb, h.kq.ext hb, row_ext h.row hb, ext_trans h.below hb⟩
theorem Tw.step {w wr w' : World} {p q : Nat} {v v2 : Value} {s : CoS} {k i : Nat} {A : Option Addr} {c : Nat} (h : Tw w wr p q v v2 s k i A c) (hK : Kc w' q v2 (runS s (i + 1))) (hg : wr.grownBy w' (some q)) (hpq : p < q) (hv : ∀ g, v.ownBlock = some g → g < p) (hw : w.heap.size ≤ q) : Tw w w' p q v v2 s k (i + 1) A c :=
  ⟨h.kp.other hg (by omega) (fun g e => by have := hv g e; omega), hK, row_keep h.row (fun g e => hg.block g (h.row.lt g e).2 (fun e2 => by have := Option.some.inj e2; have := (h.row.lt g e).1; omega)), h.below.grown hg h.below.size (fun k e => by cases e; exact hw)⟩
theorem Tw.at {w wr : World} {p q : Nat} {v v2 : Value} {s : CoS} {k i : Nat} {A : Option Addr} {c : Nat} (h : Tw w wr p q v v2 s k i A c) (j : Nat) (hj : j < k) : ∃ g, A = some ⟨g, 0, none⟩ ∧ g < wr.heap.size ∧ ∀ n u, n < 7 → (locE (runS s j)).cells[n]? = some u → wr.cell? ⟨g, j * 7 + n, none⟩ = some u := by
  rcases h.row.2 with ⟨_, h0⟩ | ⟨g, cap, cur, hv, hb, hg, hc1, hc2, hc3, hc4⟩
  · omega
  · obtain ⟨rfl, _, _⟩ := Value.slice.inj hv
    refine ⟨g, rfl, lt_of hg, fun n u hn hu => ?_⟩
    have h1 := flatV7_at (runE s k) j n (by rw [runE_len]; exact hj) hn
    rw [runE_at s k j hj, hu, ← hc4, List.getElem?_take, if_pos (by omega)] at h1
    unfold World.cell?
    rw [hg]
    simpa using h1

set_option maxRecDepth 100000 in
set_option maxHeartbeats 8000000 in
theorem coreruns (A : Option Addr) (l : List Ins) (cap : Nat) (wo n : Int) (w : World) (h : SlN w A l) (hA : A = none → l.length = 0 ∧ cap = 0) (hO : Ops w) :
    Calls Tryd.prog 4 #[.slice A l.length cap, .int .i64 wo, .int .i64 n] w fun e w' => e = .returned (.bool true) ∧ Below w.heap.size w w' := by
  have H := Lib.hid h
  have HA := Lib.hid hA
  have HO := Lib.hid hO
  clear h hA hO
  by_cases h40 : 40 < l.length
  · have e0 : decide ((l.length : Int) > 40) = true := by simp; omega
    go_enter Tryd.func4, Tryd.ntmps4
    go_wp2_with fail
    refine (awake15 w HO.out).mono ?_
    rintro e w1 ⟨rfl, hb⟩
    go_wp2_with fail
    go_ret
    exact ⟨rfl, hb⟩
  have e0 : decide ((l.length : Int) > 40) = false := by simp; omega
  by_cases h100 : 100 < n
  · have e1 : decide (n > 100) = true := by simp; omega
    go_enter Tryd.func4, Tryd.ntmps4
    go_wp2_with fail
    refine (awake15 w HO.out).mono ?_
    rintro e w1 ⟨rfl, hb⟩
    go_wp2_with fail
    go_ret
    exact ⟨rfl, hb⟩
  have e1 : decide (n > 100) = false := by simp; omega
  by_cases hE : newE 0 wo l = 0
  · have HN := Lib.hid (knew_ok 0 wo A l cap w H.out HA.out HO.out hE)
    have HG := Lib.hid (good_new' hE)
    clear hE
    go_enter Tryd.func4, Tryd.ntmps4
    go_wp2_with fail
    refine HN.out.mono ?_
    rintro e w1 ⟨p, v, rfl, hK, hp, hv1, hb⟩
    have HV0 := Lib.hid hv1
    have HK1 := Lib.hid hK
    have HB1 := Lib.hid hb
    have HP := Lib.hid hp
    clear hK hp hv1 hb HN
    generalize hs0 : (⟨fun _ => 0, 0, wo, endB l 0, 0, l⟩ : CoS) = s0 at HK1
    have HPS : Hid (s0.ps = l) := Lib.hid (by rw [← hs0])
    clear hs0
    go_wp2_with fail
    refine (ktwin_any p v s0 w1 HK1.out (by rw [HPS.out]; omega)).mono ?_
    rintro e w2 ⟨q, v2, rfl, hK, hq, hv2, hb⟩
    have HQ2 := Lib.hid hK
    have HK2 := Lib.hid (HK1.out.ext hb)
    have HB2 := Lib.hid (ext_trans HB1.out hb)
    have HQP : Hid (p < q) := Lib.hid (by have := HK1.out.lt; show p < q; omega)
    have HQW : Hid (w.heap.size ≤ q) := Lib.hid (by have := HB1.out.size; show _ ≤ q; omega)
    have HV2 : Hid (∀ g, v2.ownBlock = some g → g ≠ p) := Lib.hid (fun g hg => by have := hv2 g hg; have := HK1.out.lt; omega)
    clear hK hq hv2 hb
    obtain ⟨k0, k1, k2, k3, k4, k5, k6, _, _⟩ := HK2.out.cells
    have kl := HK2.out.lt
    go_wp2_with fail
    clear k0 k1 k2 k3 k4 k5 k6 kl
    have hal : Below w2.heap.size w2 (w2.alloc (.cells #[.int .i64 (s0.r 0), .int .i64 (s0.r 1), .int .i64 (s0.r 2), .int .i64 (s0.r 3), .int .i64 s0.a, .int .i64 s0.wo, .bool s0.ov] 32)) := ext_alloc _ (Below.refl _ _)
    refine (krun_any p v s0 n _ (HK2.out.ext hal) (by rw [HPS.out]; exact HG.out) (by omega)).mono ?_
    rintro e w3 ⟨k, A3, c3, rfl, hR, hk1, hk2, hk3⟩
    have HX3 := Lib.hid ((hR.gr.block w2.heap.size (by simp) (by have := HK2.out.lt; simp; omega)).trans (alNew rfl))
    have HQ3 := Lib.hid ((HQ2.out.ext hal).other hR.gr (by have := HQP.out; omega) HV2.out)
    have HB3 := Lib.hid ((ext_trans HB2.out hal).grown hR.gr (ext_trans HB2.out hal).size (fun k e => by cases e; exact HP.out))
    have HK3 := Lib.hid hR.kc
    have HR3 := Lib.hid hR.row
    have HI := Lib.hid hk3
    have HF := Lib.hid hk2
    obtain ⟨q0, q1, q2, q3, q4, q5, q6, _, _⟩ := HQ3.out.cells
    have ql := HQ3.out.lt
    obtain ⟨x0, x1, x2, x3, x4, x5, x6, _, xl⟩ := ev_cells HX3.out
    have hneq := neqCore
    have hmax : decide ((k : Int) > max 0 n) = false := by simp; omega
    have hkm : (k : Int) ≤ max 0 n := by omega
    clear hal hR hk2 hk3
    go_wp2_with fail
    refine region_past (by kernel_rfl) (by kernel_rfl) ?_; (repeat (go_big_quiet_step (fail))); refine wpQuiet_nil ?_; rintro _ ⟨pw, rfl⟩
    obtain ⟨W4, hW4⟩ : ∃ W4, W4 = pw.val := ⟨_, rfl⟩
    have hb4 : Below w3.heap.size w3 W4 := by rw [hW4]; exact pw.below
    rw [← hW4]
    have HT := Lib.hid (show Tw w W4 p q v v2 s0 k 0 A3 c3 from (show Tw w w3 p q v v2 s0 k 0 A3 c3 from ⟨HK3.out, HQ3.out, ⟨HR3.out.1, HR3.out.2.imp id fun ⟨g, cap, cur, h1, h2, h3⟩ => ⟨g, cap, cur, h1, Nat.le_trans (by have := HQ2.out.lt; simp; omega) h2, h3⟩⟩, HB3.out⟩).ext hb4)
    clear hW4 pw hb4 q0 q1 q2 q3 q4 q5 q6 ql x0 x1 x2 x3 x4 x5 x6 xl hneq
    go_wp2_with fail
    all_goals
      clear h
      go_loopg [12] k (fun g s12 wr => ∃ i : Nat, i + g = k ∧ s12 = .int .i64 i ∧ Hid (Tw w wr p q v v2 s0 k i A3 c3))
      case atStart => exact ⟨0, by omega, rfl, HT⟩
      case round =>
        obtain ⟨i, hi, rfl, HT1⟩ := hrel
        by_cases hlt : i < k
        · have ek : decide ((i : Int) < (k : Int)) = true := by simp; omega
          go_wp2_with fail
          refine (klocal_yes q v2 (runS s0 i) _ HT1.out.kq (by rw [runS_ps, HPS.out]; exact HG.out) (HI.out i hlt)).mono ?_
          rintro e w5 ⟨rfl, hK, hg⟩
          have HT2 := Lib.hid (HT1.out.step hK hg HQP.out (fun g hg => (HV0.out g hg).2) HQW.out)
          obtain ⟨gb, rfl, hgl, hat⟩ := HT2.out.at i hlt
          clear hK hg
          generalize locE (runS s0 i) = ev at hat
          obtain ⟨ec, ea, eo, ew, ed, ev', ecd⟩ := ev
          have a0 := hat 0 _ (by omega) rfl
          have a1 := hat 1 _ (by omega) rfl
          have a2 := hat 2 _ (by omega) rfl
          have a3 := hat 3 _ (by omega) rfl
          have a4 := hat 4 _ (by omega) rfl
          have a5 := hat 5 _ (by omega) rfl
          have a6 := hat 6 _ (by omega) rfl
          rw [Nat.add_zero] at a0
          have hne := neqEv
          simp only [Ev.cells]
          clear hat
          go_wp2_with fail
          refine region_past (by kernel_rfl) (by kernel_rfl) ?_; (repeat (go_big_quiet_step (fail))); refine wpQuiet_nil ?_; rintro _ ⟨px, rfl⟩
          have HT3 := Lib.hid (HT2.out.ext (w' := px.val) (ext_past _ (ext_alloc _ (Below.refl _ _))))
          go_wp2_with fail
          go_roundg (k - (i + 1))
          case measure => omega
          case rel => exact ⟨i + 1, by omega, by go_num, HT3⟩
        · have ek : decide ((i : Int) < (k : Int)) = false := by simp; omega
          obtain rfl : i = k := by omega
          have heq := eqCore
          cases he : endB (runS s0 i).ps (runS s0 i).a
          · have HEN := Lib.hid he
            clear he
            go_wp2_with fail
            refine (knext_ok p v (runS s0 i) _ HT1.out.kp HEN.out).mono ?_
            rintro e w5 ⟨rfl, hb⟩
            have HT2 := Lib.hid (HT1.out.ext hb)
            clear hb
            obtain ⟨p0, p1, p2, p3, p4, p5, p6, _, _⟩ := HT2.out.kp.cells
            obtain ⟨q0, q1, q2, q3, q4, q5, q6, _, _⟩ := HT2.out.kq.cells
            have pl := HT2.out.kp.lt
            have ql := HT2.out.kq.lt
            by_cases hnk : n ≤ (i : Int)
            · have e7 : decide ((i : Int) ≥ n) = true := by simpa using hnk
              go_wp2_with fail
              refine region_past (by kernel_rfl) (by kernel_rfl) ?_; (repeat (go_big_quiet_step ((go_at_call 14; exact calls_past (awake15 _ (HO.out.ext (ext_past _ (ext_trans HT2.out.below (ext_alloc _ (Below.refl _ _)))))))))); refine wpQuiet_nil ?_; rintro _ ⟨p, rfl⟩
              go_wp2_with fail
              go_ret
              exact ⟨rfl, ext_past _ (ext_trans HT2.out.below (ext_alloc _ (Below.refl _ _)))⟩
            · have e7 : decide ((i : Int) ≥ n) = false := by simp; omega
              have hop : (atI (runS s0 i).ps (runS s0 i).a.toNat).op = 3 ∨ (atI (runS s0 i).ps (runS s0 i).a.toNat).op = 4 ∨ (atI (runS s0 i).ps (runS s0 i).a.toNat).op = 5 ∨ (atI (runS s0 i).ps (runS s0 i).a.toNat).op = 8 := by
                obtain ⟨k0, hk0, hkl, h11⟩ := endB_no HEN.out
                have ek0 : (runS s0 i).a.toNat = k0 := by omega
                obtain ⟨x, hx, x1, x12, _⟩ := good_at (by rw [runS_ps, HPS.out]; exact HG.out) hkl
                rw [ek0]
                rw [← hx] at x1 x12
                refine ask_op x1 x12 h11 ?_
                have h7 := HF.out.resolve_left hnk
                unfold isLoc at h7
                rw [HEN.out, ek0] at h7
                simpa using h7
              have HOP := Lib.hid hop
              clear hop
              generalize atI (runS s0 i).ps (runS s0 i).a.toNat = xx at HOP
              go_wp2_with fail
              refine region_past (by kernel_rfl) (by kernel_rfl) ?_; (repeat (go_big_quiet_step ((first | (go_at_call 21; exact calls_past ((rlocal_ask xx.op _ HOP.out).mono fun _ _ h => ⟨h.1, by rw [h.2]; exact Below.refl _ _⟩)) | (go_at_call 14; exact calls_past (awake15 _ (HO.out.ext (ext_past _ (ext_trans HT2.out.below (ext_alloc _ (Below.refl _ _))))))))))); refine wpQuiet_nil ?_; rintro _ ⟨p, rfl⟩
              go_wp2_with fail
              go_ret
              exact ⟨rfl, ext_past _ (ext_trans HT2.out.below (ext_alloc _ (Below.refl _ _)))⟩
          · have HEN := Lib.hid he
            clear he
            go_wp2_with fail
            refine (knext_end p v (runS s0 i) _ HT1.out.kp HEN.out).mono ?_
            rintro e w5 ⟨rfl, hb⟩
            have HT2 := Lib.hid (HT1.out.ext hb)
            clear hb
            obtain ⟨p0, p1, p2, p3, p4, p5, p6, _, _⟩ := HT2.out.kp.cells
            obtain ⟨q0, q1, q2, q3, q4, q5, q6, _, _⟩ := HT2.out.kq.cells
            have pl := HT2.out.kp.lt
            have ql := HT2.out.kq.lt
            by_cases hnk : n ≤ (i : Int)
            · have e7 : decide ((i : Int) ≥ n) = true := by simpa using hnk
              go_wp2_with fail
              refine region_past (by kernel_rfl) (by kernel_rfl) ?_; (repeat (go_big_quiet_step ((go_at_call 14; exact calls_past (awake15 _ (HO.out.ext (ext_past _ (ext_trans HT2.out.below (ext_alloc _ (Below.refl _ _)))))))))); refine wpQuiet_nil ?_; rintro _ ⟨p, rfl⟩
              go_wp2_with fail
              go_ret
              exact ⟨rfl, ext_past _ (ext_trans HT2.out.below (ext_alloc _ (Below.refl _ _)))⟩
            · have e7 : decide ((i : Int) ≥ n) = false := by simp; omega
              go_wp2_with fail
              refine region_past (by kernel_rfl) (by kernel_rfl) ?_; (repeat (go_big_quiet_step ((go_at_call 14; exact calls_past (awake15 _ (HO.out.ext (ext_past _ (ext_trans HT2.out.below (ext_alloc _ (Below.refl _ _)))))))))); refine wpQuiet_nil ?_; rintro _ ⟨p, rfl⟩
              go_wp2_with fail
              go_ret
              exact ⟨rfl, ext_past _ (ext_trans HT2.out.below (ext_alloc _ (Below.refl _ _)))⟩
  · have HN := Lib.hid (knew_no 0 wo A l cap w H.out HO.out hE)
    have HE := Lib.hid hE
    have hE2 : (newE 0 wo l != 0) = true := by simpa using hE
    clear hE
    generalize newE 0 wo l = er at HN hE2
    go_enter Tryd.func4, Tryd.ntmps4
    go_wp2_with fail
    refine HN.out.mono ?_
    rintro e w1 ⟨rfl, hb⟩
    have HB := Lib.hid hb
    clear hb
    go_wp2_with fail
    refine (awake15 w1 (HO.out.ext HB.out)).mono ?_
    rintro e w2 ⟨rfl, hb⟩
    go_wp2_with fail
    go_ret
    exact ⟨rfl, ext_trans HB.out hb⟩

end Go.Proofs.YtkobeajbiendlaaDoor
