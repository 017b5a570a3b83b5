/- What this text holds: the laws CoreNews and CoreNil, walked. Condition: the table of ops holds what its initialiser lays. -/
import Derived.Test.YtkobeajbiendlaaDoorCoreF
namespace Go.Proofs.YtkobeajbiendlaaDoor
open Go.RowKit

theorem regs_zero (w : World) : (binOp .eql 30 (.agg #[.int .i64 0, .int .i64 0, .int .i64 0, .int .i64 0]) (.agg #[.int .i64 0, .int .i64 0, .int .i64 0, .int .i64 0])).run Tryd.prog w = .ok (.bool true) w := by kernel_rfl

set_option maxRecDepth 100000 in
set_option maxHeartbeats 4000000 in
theorem corenews (no wo : Int) (A : Option Addr) (l : List Ins) (cap : Nat) (w : World) (h : SlN w A l) (hA : A = none → l.length = 0 ∧ cap = 0) (hO : Ops w) :
    Calls Tryd.prog 3 #[.int .i64 no, .int .i64 wo, .slice A l.length cap] w fun e w' => e = .returned (.bool true) ∧ Below w.heap.size w w' := by
  have H := Lib.hid h
  have HA := Lib.hid hA
  have HO := Lib.hid hO
  clear h hA hO
  by_cases h60 : 60 < l.length
  · have e0 : decide ((l.length : Int) > 60) = true := by simp; omega
    go_enter Tryd.func3, Tryd.ntmps3
    go_wp2_with fail
    refine (awake15 w HO.out).mono ?_
    rintro e w1 ⟨rfl, hb⟩
    go_wp2_with fail
    go_ret
    exact ⟨rfl, hb⟩
  have e0 : decide ((l.length : Int) > 60) = false := by simp; omega
  by_cases hE : newE no wo l = 0
  · have hr : 0 ≤ no ∧ no < 4 ∧ 0 ≤ wo ∧ wo ≤ 3 ∧ (chkP l).2 = 0 := by
      unfold newE at hE
      split at hE
      · cases hE
      · exact ⟨by omega, by omega, by omega, by omega, hE⟩
    obtain ⟨r1, r2, r3, r4, r5⟩ := hr
    have e1 : decide (no < 0) = false := by simp; omega
    have e2 : decide (no > 3) = false := by simp; omega
    have e3 : decide (wo < 0) = false := by simp; omega
    have e4 : decide (wo > 3) = false := by simp; omega
    have HN := Lib.hid (knew_ok no wo A l cap w H.out HA.out HO.out hE)
    have hch := fun w' (hb : Below w.heap.size w w') => icheck_any A l cap w' (H.out.ext hb) (HO.out.ext hb)
    rw [r5] at hch
    generalize (chkP l).1 = cp at hch
    have HC := Lib.hid hch
    clear hch hE r5
    go_enter Tryd.func3, Tryd.ntmps3
    go_wp2_with fail
    refine HN.out.mono ?_
    rintro e w1 ⟨p, v, rfl, hK, hp, hv, hb⟩
    have HK := Lib.hid hK
    have HB := Lib.hid hb
    clear hK hp hv hb HN
    go_wp2_with fail
    refine (HC.out w1 HB.out).mono ?_
    rintro e w2 ⟨rfl, hb⟩
    have HK2 := Lib.hid (HK.out.ext hb)
    have HB2 := Lib.hid (ext_trans HB.out hb)
    clear hb HK HC
    obtain ⟨k0, k1, k2, k3, k4, k5, k6, _, _⟩ := HK2.out.cells
    have kl := HK2.out.lt
    have hrz := regs_zero
    dsimp only at k0 k1 k2 k3 k4 k5 k6
    by_cases hl : l.length = 0
    · have hl0 := List.eq_nil_of_length_eq_zero hl
      subst hl0
      rw [show endB [] 0 = true from rfl] at k6
      go_wp2_with fail
      refine region_past (by kernel_rfl) (by kernel_rfl) ?_; (repeat (go_big_quiet_step ((go_at_call 14; exact calls_past (awake15 _ (HO.out.ext (ext_past _ HB2.out))))))); refine wpQuiet_nil ?_; rintro _ ⟨p, rfl⟩
      go_wp2_with fail
      go_ret
      exact ⟨rfl, ext_past _ HB2.out⟩
    · have hlc : ((l.length : Int) == 0) = false := by simpa using hl
      obtain ⟨b, off, rfl, hb, hc⟩ := H.out (by omega)
      have c0 := (HB2.out.cell (p := ⟨b, off + 0 * 4, none⟩) hb).trans (hc 0 (by omega)).1
      have hbl := Nat.lt_of_lt_of_le hb HB2.out.size
      have hen : endB l 0 = ((atI l 0).op == 11) := by
        have h1 : decide ((l.length : Int) ≤ 0) = false := decide_eq_false (by omega)
        unfold endB
        rw [h1]
        simp
      have hl1 : (0 : Int) < (l.length : Int) := by omega
      rw [hen] at k6
      generalize (atI l 0).op = o at c0 k6
      rw [Nat.zero_mul, Nat.add_zero] at c0
      clear hc hen
      cases ho : (o == 11)
      · rw [ho] at k6
        go_wp2_with fail
        refine region_past (by kernel_rfl) (by kernel_rfl) ?_; (repeat (go_big_quiet_step ((go_at_call 14; exact calls_past (awake15 _ (HO.out.ext (ext_past _ HB2.out))))))); refine wpQuiet_nil ?_; rintro _ ⟨p, rfl⟩
        go_wp2_with fail
        go_ret
        exact ⟨rfl, ext_past _ HB2.out⟩
      · rw [ho] at k6
        go_wp2_with fail
        refine region_past (by kernel_rfl) (by kernel_rfl) ?_; (repeat (go_big_quiet_step ((go_at_call 14; exact calls_past (awake15 _ (HO.out.ext (ext_past _ HB2.out))))))); refine wpQuiet_nil ?_; rintro _ ⟨p, rfl⟩
        go_wp2_with fail
        go_ret
        exact ⟨rfl, ext_past _ HB2.out⟩
  · have HN := Lib.hid (knew_no no wo A l cap w H.out HO.out hE)
    have HC := Lib.hid (fun w' (hb : Below w.heap.size w w') => icheck_any A l cap w' (H.out.ext hb) (HO.out.ext hb))
    have HE := Lib.hid hE
    by_cases hr : no < 0 ∨ 4 ≤ no ∨ wo < 0 ∨ 3 < wo
    · have h10 : newE no wo l = 10 := by unfold newE; rw [if_pos hr]
      rw [h10] at HN
      generalize chkP l = cp at HC
      clear hE HE h10
      by_cases r1 : no < 0
      · have e1 : decide (no < 0) = true := by simpa using r1
        clear hr
        go_enter Tryd.func3, Tryd.ntmps3
        go_wp2_with fail
        refine HN.out.mono ?_
        rintro e w1 ⟨rfl, hb⟩
        have HB := Lib.hid hb
        clear hb
        go_wp2_with fail
        refine (HC.out w1 HB.out).mono ?_
        rintro e w2 ⟨rfl, hb⟩
        have HB2 := Lib.hid (ext_trans HB.out hb)
        clear hb
        go_wp2_with fail
        refine (awake15 _ (HO.out.ext HB2.out)).mono ?_
        rintro e w3 ⟨rfl, hb⟩
        have HB3 := Lib.hid (ext_trans HB2.out hb)
        clear hb
        go_wp2_with fail
        go_ret
        exact ⟨rfl, HB3.out⟩
      have e1 : decide (no < 0) = false := by simpa using r1
      by_cases r2 : 4 ≤ no
      · have e2 : decide (no > 3) = true := by simp; omega
        clear hr
        go_enter Tryd.func3, Tryd.ntmps3
        go_wp2_with fail
        refine HN.out.mono ?_
        rintro e w1 ⟨rfl, hb⟩
        have HB := Lib.hid hb
        clear hb
        go_wp2_with fail
        refine (HC.out w1 HB.out).mono ?_
        rintro e w2 ⟨rfl, hb⟩
        have HB2 := Lib.hid (ext_trans HB.out hb)
        clear hb
        go_wp2_with fail
        refine (awake15 _ (HO.out.ext HB2.out)).mono ?_
        rintro e w3 ⟨rfl, hb⟩
        have HB3 := Lib.hid (ext_trans HB2.out hb)
        clear hb
        go_wp2_with fail
        go_ret
        exact ⟨rfl, HB3.out⟩
      have e2 : decide (no > 3) = false := by simp; omega
      by_cases r3 : wo < 0
      · have e3 : decide (wo < 0) = true := by simpa using r3
        clear hr
        go_enter Tryd.func3, Tryd.ntmps3
        go_wp2_with fail
        refine HN.out.mono ?_
        rintro e w1 ⟨rfl, hb⟩
        have HB := Lib.hid hb
        clear hb
        go_wp2_with fail
        refine (HC.out w1 HB.out).mono ?_
        rintro e w2 ⟨rfl, hb⟩
        have HB2 := Lib.hid (ext_trans HB.out hb)
        clear hb
        go_wp2_with fail
        refine (awake15 _ (HO.out.ext HB2.out)).mono ?_
        rintro e w3 ⟨rfl, hb⟩
        have HB3 := Lib.hid (ext_trans HB2.out hb)
        clear hb
        go_wp2_with fail
        go_ret
        exact ⟨rfl, HB3.out⟩
      have e3 : decide (wo < 0) = false := by simpa using r3
      have e4 : decide (wo > 3) = true := by simp; omega
      clear hr
      go_enter Tryd.func3, Tryd.ntmps3
      go_wp2_with fail
      refine HN.out.mono ?_
      rintro e w1 ⟨rfl, hb⟩
      have HB := Lib.hid hb
      clear hb
      go_wp2_with fail
      refine (HC.out w1 HB.out).mono ?_
      rintro e w2 ⟨rfl, hb⟩
      have HB2 := Lib.hid (ext_trans HB.out hb)
      clear hb
      go_wp2_with fail
      refine (awake15 _ (HO.out.ext HB2.out)).mono ?_
      rintro e w3 ⟨rfl, hb⟩
      have HB3 := Lib.hid (ext_trans HB2.out hb)
      clear hb
      go_wp2_with fail
      go_ret
      exact ⟨rfl, HB3.out⟩
    · have e1 : decide (no < 0) = false := by simp; omega
      have e2 : decide (no > 3) = false := by simp; omega
      have e3 : decide (wo < 0) = false := by simp; omega
      have e4 : decide (wo > 3) = false := by simp; omega
      have hn : newE no wo l = (chkP l).2 := by unfold newE; rw [if_neg hr]
      have e5 : ((chkP l).2 != 0) = true := by rw [← hn]; simpa using hE
      rw [hn] at HN
      generalize chkP l = cp at HN HC e5
      clear hE HE hn hr
      go_enter Tryd.func3, Tryd.ntmps3
      go_wp2_with fail
      refine HN.out.mono ?_
      rintro e w1 ⟨rfl, hb⟩
      have HB := Lib.hid hb
      clear hb
      go_wp2_with fail
      refine (HC.out w1 HB.out).mono ?_
      rintro e w2 ⟨rfl, hb⟩
      have HB2 := Lib.hid (ext_trans HB.out hb)
      clear hb
      go_wp2_with fail
      refine (awake15 _ (HO.out.ext HB2.out)).mono ?_
      rintro e w3 ⟨rfl, hb⟩
      have HB3 := Lib.hid (ext_trans HB2.out hb)
      clear hb
      go_wp2_with fail
      go_ret
      exact ⟨rfl, HB3.out⟩

set_option maxRecDepth 100000 in
set_option maxHeartbeats 4000000 in
theorem corenil (x y n : Int) (w : World) (hO : Ops w) : Calls Tryd.prog 5 #[.int .i64 x, .int .i64 y, .int .i64 n] w fun e w' => e = .returned (.bool true) ∧ Below w.heap.size w w' := by
  have HO := Lib.hid hO
  clear hO
  go_enter Tryd.func5, Tryd.ntmps5
  go_wp2_with fail
  refine (knext_nil _).mono ?_
  rintro e w1 ⟨rfl, hb⟩
  have HB1 := Lib.hid hb
  clear hb
  go_wp2_with fail
  refine (klocal_nil _).mono ?_
  rintro e w2 ⟨rfl, hb⟩
  have HB2 := Lib.hid (ext_trans HB1.out (ext_next hb (ext_alloc _ (Below.refl _ _))))
  clear hb HB1
  go_wp2_with fail
  refine (kaccess_nil _).mono ?_
  rintro e w3 ⟨rfl, hb⟩
  have HX3 := Lib.hid ((hb.block w2.heap.size (by simp)).trans (alNew rfl))
  have HB3 := Lib.hid (ext_trans HB2.out (ext_next hb (ext_alloc _ (Below.refl _ _))))
  clear hb HB2
  go_wp2_with fail
  refine (kask_nil _).mono ?_
  rintro e w4 ⟨rfl, hb⟩
  have HX4 := Lib.hid ((hb.block w2.heap.size (by have := lt_of HX3.out; simp; omega)).trans (alOld HX3.out))
  have HA4 := Lib.hid ((hb.block w3.heap.size (by simp)).trans (alNew rfl))
  have HB4 := Lib.hid (ext_trans HB3.out (ext_next hb (ext_alloc _ (Below.refl _ _))))
  clear hb HB3 HX3
  go_wp2_with fail
  refine (kretire_nil x y _).mono ?_
  rintro e w5 ⟨rfl, hb⟩
  have hx5 := (hb.block w2.heap.size (by have := lt_of HX4.out; simp; omega)).trans (alOld HX4.out)
  have ha5 := (hb.block w3.heap.size (by have := lt_of HA4.out; simp; omega)).trans (alOld HA4.out)
  have hk5 := (hb.block w4.heap.size (by simp)).trans (alNew rfl)
  have HB5 := Lib.hid (ext_trans HB4.out (ext_next hb (ext_alloc _ (Below.refl _ _))))
  obtain ⟨x0, x1, x2, x3, x4, x5, x6, xf, xl⟩ := ev_cells hx5
  obtain ⟨a0, a1, a2, a3, af, al⟩ := four_cells ha5
  obtain ⟨k0, k1, k2, k3, k4, kf, kl⟩ := five_cells hk5
  clear hb HB4 HX4 HA4 hx5 ha5 hk5
  go_wp2_with fail
  refine (krun_nil n _).mono ?_
  rintro e w6 ⟨rfl, hb⟩
  have HB6 := Lib.hid (ext_trans HB5.out (ext_next hb (ext_alloc _ (Below.refl _ _))))
  clear hb
  go_wp2_with fail
  refine (ktwin_nil _).mono ?_
  rintro e w7 ⟨rfl, hb⟩
  have HB7 := Lib.hid (ext_trans HB6.out hb)
  clear hb
  go_wp2_with fail
  refine (awake15 _ (HO.out.ext HB7.out)).mono ?_
  rintro e w8 ⟨rfl, hb⟩
  have HB8 := Lib.hid (ext_trans HB7.out hb)
  clear hb
  go_wp2_with fail
  go_ret
  exact ⟨rfl, HB8.out⟩

end Go.Proofs.YtkobeajbiendlaaDoor
