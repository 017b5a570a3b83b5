/- What this text holds: what is wrong with a world, as the statements of layer 11 ask it. No condition. -/
import Derived.Test.YtkobeajbiendlaaDoorFw11
namespace Go.Proofs.YtkobeajbiendlaaDoor
open Go.RowKit

section
variable (c : Cfg) (A B C D : Option Addr) (l : List Pr) (ws os ds : List Int) (c1 c2 c3 c4 : Nat) (w : World)
set_option maxRecDepth 100000 in
theorem wrong_cfg (hc : ¬ c.ok) : Calls Tryd.prog 29 #[.agg #[.int .i64 c.co, .int .i64 c.gr, .int .i64 c.se, .int .i64 c.wa, .int .i64 c.de, .int .i64 c.en, .int .i64 c.ba, .slice A l.length c1, .slice B ws.length c2, .slice C os.length c3, .slice D ds.length c4]] w fun e w' => e = .returned (.int .i64 10) ∧ Below w.heap.size w w' := by
  have HN := Lib.hid (Wb.new c A B C D l ws os ds c1 c2 c3 c4 w)
  have HC := Lib.hid (fun W => may01_no hc W)
  clear hc
  go_enter Tryd.func29, Tryd.ntmps29
  go_wp2_with fail
  refine (HC.out _).mono ?_
  rintro e w1 ⟨rfl, hb⟩
  have HB := Lib.hid (HN.out.ext hb).be
  clear hb
  go_wp2_with fail
  go_ret
  exact ⟨rfl, HB.out⟩
set_option maxRecDepth 100000 in
theorem wrong_len0 (hc : c.ok) (e1 : ((l.length : Int) != c.co) = true) :
    Calls Tryd.prog 29 #[.agg #[.int .i64 c.co, .int .i64 c.gr, .int .i64 c.se, .int .i64 c.wa, .int .i64 c.de, .int .i64 c.en, .int .i64 c.ba, .slice A l.length c1, .slice B ws.length c2, .slice C os.length c3, .slice D ds.length c4]] w fun e w' => e = .returned (.int .i64 1) ∧ Below w.heap.size w w' := by
  have HN := Lib.hid (Wb.new c A B C D l ws os ds c1 c2 c3 c4 w)
  have HC := Lib.hid (fun W => may01_yes hc W)
  clear hc
  go_enter Tryd.func29, Tryd.ntmps29
  go_wp2_with fail
  refine (HC.out _).mono ?_
  rintro e w1 ⟨rfl, hb⟩
  have HN1 := Lib.hid (HN.out.ext hb)
  clear hb
  obtain ⟨t0, t1, t2, t3, t4, t5, t6, t7, t8, t9, t10⟩ := eleven_at HN1.out.box
  have hl1 := lt_of HN1.out.box
  go_wp2_with fail
  go_ret
  exact ⟨rfl, HN1.out.be⟩
set_option maxRecDepth 100000 in
theorem wrong_len1 (hc : c.ok) (e1 : ((l.length : Int) != c.co) = false) (e2 : ((ws.length : Int) != c.co) = true) :
    Calls Tryd.prog 29 #[.agg #[.int .i64 c.co, .int .i64 c.gr, .int .i64 c.se, .int .i64 c.wa, .int .i64 c.de, .int .i64 c.en, .int .i64 c.ba, .slice A l.length c1, .slice B ws.length c2, .slice C os.length c3, .slice D ds.length c4]] w fun e w' => e = .returned (.int .i64 1) ∧ Below w.heap.size w w' := by
  have HN := Lib.hid (Wb.new c A B C D l ws os ds c1 c2 c3 c4 w)
  have HC := Lib.hid (fun W => may01_yes hc W)
  clear hc
  go_enter Tryd.func29, Tryd.ntmps29
  go_wp2_with fail
  refine (HC.out _).mono ?_
  rintro e w1 ⟨rfl, hb⟩
  have HN1 := Lib.hid (HN.out.ext hb)
  clear hb
  obtain ⟨t0, t1, t2, t3, t4, t5, t6, t7, t8, t9, t10⟩ := eleven_at HN1.out.box
  have hl1 := lt_of HN1.out.box
  go_wp2_with fail
  go_ret
  exact ⟨rfl, HN1.out.be⟩
set_option maxRecDepth 100000 in
theorem wrong_len2 (hc : c.ok) (e1 : ((l.length : Int) != c.co) = false) (e2 : ((ws.length : Int) != c.co) = false) (e3 : ((os.length : Int) != c.gr) = true) :
    Calls Tryd.prog 29 #[.agg #[.int .i64 c.co, .int .i64 c.gr, .int .i64 c.se, .int .i64 c.wa, .int .i64 c.de, .int .i64 c.en, .int .i64 c.ba, .slice A l.length c1, .slice B ws.length c2, .slice C os.length c3, .slice D ds.length c4]] w fun e w' => e = .returned (.int .i64 1) ∧ Below w.heap.size w w' := by
  have HN := Lib.hid (Wb.new c A B C D l ws os ds c1 c2 c3 c4 w)
  have HC := Lib.hid (fun W => may01_yes hc W)
  clear hc
  go_enter Tryd.func29, Tryd.ntmps29
  go_wp2_with fail
  refine (HC.out _).mono ?_
  rintro e w1 ⟨rfl, hb⟩
  have HN1 := Lib.hid (HN.out.ext hb)
  clear hb
  obtain ⟨t0, t1, t2, t3, t4, t5, t6, t7, t8, t9, t10⟩ := eleven_at HN1.out.box
  have hl1 := lt_of HN1.out.box
  go_wp2_with fail
  go_ret
  exact ⟨rfl, HN1.out.be⟩
set_option maxRecDepth 100000 in
theorem wrong_len3 (hc : c.ok) (e1 : ((l.length : Int) != c.co) = false) (e2 : ((ws.length : Int) != c.co) = false) (e3 : ((os.length : Int) != c.gr) = false) (e4 : ((ds.length : Int) != 4 * c.gr) = true) :
    Calls Tryd.prog 29 #[.agg #[.int .i64 c.co, .int .i64 c.gr, .int .i64 c.se, .int .i64 c.wa, .int .i64 c.de, .int .i64 c.en, .int .i64 c.ba, .slice A l.length c1, .slice B ws.length c2, .slice C os.length c3, .slice D ds.length c4]] w fun e w' => e = .returned (.int .i64 1) ∧ Below w.heap.size w w' := by
  have HN := Lib.hid (Wb.new c A B C D l ws os ds c1 c2 c3 c4 w)
  have HC := Lib.hid (fun W => may01_yes hc W)
  obtain ⟨_, ⟨hg1, hg2⟩, _⟩ := hc
  skip
  go_enter Tryd.func29, Tryd.ntmps29
  go_wp2_with fail
  refine (HC.out _).mono ?_
  rintro e w1 ⟨rfl, hb⟩
  have HN1 := Lib.hid (HN.out.ext hb)
  clear hb
  obtain ⟨t0, t1, t2, t3, t4, t5, t6, t7, t8, t9, t10⟩ := eleven_at HN1.out.box
  have hl1 := lt_of HN1.out.box
  go_wp2_with fail
  go_ret
  exact ⟨rfl, HN1.out.be⟩
set_option maxRecDepth 100000 in
set_option maxHeartbeats 8000000 in
theorem wrong_go (hc : c.ok) (h1 : (l.length : Int) = c.co) (h2 : (ws.length : Int) = c.co) (h3 : (os.length : Int) = c.gr) (h4 : (ds.length : Int) = 4 * c.gr) (hA : SlR w A l) (hB : SlI w B ws) (hC : SlI w C os) (hf : ∀ i, i < l.length → (atR l i).ps.length ≤ 60) :
    Calls Tryd.prog 29 #[.agg #[.int .i64 c.co, .int .i64 c.gr, .int .i64 c.se, .int .i64 c.wa, .int .i64 c.de, .int .i64 c.en, .int .i64 c.ba, .slice A l.length c1, .slice B ws.length c2, .slice C os.length c3, .slice D ds.length c4]] w fun e w' => e = .returned (.int .i64 (newE11 c l ws os ds)) ∧ Below w.heap.size w w' := by
  have HG := Lib.hid (new_go hc h1 h2 h3 h4)
  have e1 : ((l.length : Int) != c.co) = false := by simpa using h1
  have e2 : ((ws.length : Int) != c.co) = false := by simpa using h2
  have e3 : ((os.length : Int) != c.gr) = false := by simpa using h3
  have e4 : ((ds.length : Int) != 4 * c.gr) = false := by simpa using h4
  have HZ := Lib.hid (show l.length ≤ 4 ∧ ws.length ≤ 4 ∧ os.length ≤ 16 from by
    obtain ⟨⟨k1, k2⟩, ⟨k3, k4⟩, _⟩ := hc
    omega)
  have HA := Lib.hid hA
  have HB := Lib.hid hB
  have HCC := Lib.hid hC
  have HF := Lib.hid hf
  have HN := Lib.hid (Wb.new c A B C D l ws os ds c1 c2 c3 c4 w)
  have HC := Lib.hid (fun W => may01_yes hc W)
  obtain ⟨_, ⟨hg1, hg2⟩, _⟩ := hc
  clear hA hB hC hf h1 h2 h3 h4
  go_enter Tryd.func29, Tryd.ntmps29
  go_wp2_with fail
  refine (HC.out _).mono ?_
  rintro e w1 ⟨rfl, hb⟩
  have HN1 := Lib.hid (HN.out.ext hb)
  clear hb
  obtain ⟨t0, t1, t2, t3, t4, t5, t6, t7, t8, t9, t10⟩ := eleven_at HN1.out.box
  have hl1 := lt_of HN1.out.box
  go_wp2_with fail
  clear e1 e2 e3 e4 t0 t1 t2 t3 t4 t5 t6 t7 t8 t9 t10 hl1
  go_loopg [3] l.length (fun g s3 wr => ∃ k : Nat, s3 = .int .i64 k ∧ k + g = l.length ∧ Hid (badP (l.take k) = 0) ∧ Hid (Wb w wr w.heap.size c A B C D l ws os ds c1 c2 c3 c4))
  case atStart => exact ⟨0, rfl, by omega, Lib.hid rfl, HN1⟩
  case round =>
    obtain ⟨k, rfl, hk, HT, HR⟩ := hrel
    obtain ⟨t0, t1, t2, t3, t4, t5, t6, t7, t8, t9, t10⟩ := eleven_at HR.out.box
    have hl1 := lt_of HR.out.box
    by_cases hlt : k < l.length
    · have ek : decide ((k : Int) < (l.length : Int)) = true := by simp; omega
      have ek2 : decide (k < l.length) = true := by simpa using hlt
      obtain ⟨b, off, hAA, hbl, hcs⟩ := ((HA.out.ext HR.out.be).cells (by omega))
      have y0 := hcs k hlt
      have hkl : (k : Int) < (l.length : Int) := by omega
      have hk4 : (l.length : Int) ≤ 4 := by have := HZ.out; omega
      have HLT := Lib.hid (And.intro hk hlt)
      have HBT := Lib.hid (badP_take hlt HT.out)
      have HPL := Lib.hid (plain10 (atR l k).A (atR l k).ps (atR l k).c wr ((HA.out.ext HR.out.be).ins k hlt).1 (by have := HF.out k hlt; omega))
      have HCK := Lib.hid (fun (W : World) (A' : Option Addr) (c' : Nat) h => rcheck_any A' (atR l k).ps c' W h)
      subst hAA
      clear hcs hk hlt
      generalize hcp : chkP (atR l k).ps = cp at *
      clear hcp
      by_cases hz : cp.2 = 0
      · have ez : (cp.2 != 0) = false := by simpa using hz
        have HT2 := Lib.hid (show badP (l.take (k + 1)) = 0 from HBT.out.trans hz)
        clear hz
        go_wp2_with fail
        refine HPL.out.mono ?_
        rintro e w3 ⟨A', c', rfl, hS, _, _, hb⟩
        have HN3 := Lib.hid (HR.out.ext hb)
        have HC3 := Lib.hid (HCK.out w3 A' c' hS)
        clear hb y0 hS t0 t1 t2 t3 t4 t5 t6 t7 t8 t9 t10 hl1
        go_wp2_with fail
        refine HC3.out.mono ?_
        rintro e w4 ⟨rfl, hb⟩
        have HN4 := Lib.hid (HN3.out.ext hb)
        clear hb
        go_wp2_with fail
        go_roundg (l.length - (k + 1))
        case measure => have := HLT.out; omega
        case rel => exact ⟨k + 1, by go_num, by have := HLT.out; omega, HT2, HN4⟩
      · have ez : (cp.2 != 0) = true := by simpa using hz
        have HF2 := Lib.hid (show newE11 c l ws os ds = cp.2 from by
          have hb : badP l = cp.2 := (badP_of (k := k + 1) (by rw [HBT.out]; exact hz)).trans HBT.out
          have := HG.out.1 (by rw [hb]; exact hz)
          rw [hb] at this
          exact this)
        clear hz
        go_wp2_with fail
        refine HPL.out.mono ?_
        rintro e w3 ⟨A', c', rfl, hS, _, _, hb⟩
        have HN3 := Lib.hid (HR.out.ext hb)
        have HC3 := Lib.hid (HCK.out w3 A' c' hS)
        clear hb y0 hS t0 t1 t2 t3 t4 t5 t6 t7 t8 t9 t10 hl1
        go_wp2_with fail
        refine HC3.out.mono ?_
        rintro e w4 ⟨rfl, hb⟩
        have HN4 := Lib.hid (HN3.out.ext hb)
        clear hb
        go_wp2_with fail
        go_ret
        exact ⟨ret_int (by rw [HF2.out]), HN4.out.be⟩
    · have ek : decide ((k : Int) < (l.length : Int)) = false := by simp; omega
      have ek2 : decide (k < l.length) = false := by simpa using hlt
      have HBP := Lib.hid (show badP l = 0 by have := HT.out; rwa [List.take_of_length_le (by omega)] at this)
      clear hk hlt
      go_wp2_with fail
      clear t0 t1 t2 t3 t4 t5 t6 t7 t8 t9 t10 hl1
      go_loopg [6] ws.length (fun g s6 wr => ∃ k : Nat, s6 = .int .i64 k ∧ k + g = ws.length ∧ Hid (allIn 0 3 (ws.take k) = true) ∧ Hid (Wb w wr w.heap.size c A B C D l ws os ds c1 c2 c3 c4))
      case atStart => exact ⟨0, rfl, by omega, Lib.hid rfl, HR⟩
      case round =>
        obtain ⟨k, rfl, hk, HT, HR⟩ := hrel
        obtain ⟨t0, t1, t2, t3, t4, t5, t6, t7, t8, t9, t10⟩ := eleven_at HR.out.box
        have hl1 := lt_of HR.out.box
        by_cases hlt : k < ws.length
        · have ek : decide ((k : Int) < (ws.length : Int)) = true := by simp; omega
          have ek2 : decide (k < ws.length) = true := by simpa using hlt
          obtain ⟨b, off, hAA, hbl, hcs⟩ := ((HB.out.ext HR.out.be) (by omega))
          have y0 := hcs k hlt
          have hkl : (k : Int) < (ws.length : Int) := by omega
          have hk4 : (ws.length : Int) ≤ 4 := by have := HZ.out; omega
          have HLT := Lib.hid (And.intro hk hlt)
          have HTK := Lib.hid (allIn_take (l := 0) (m := 3) hlt)
          have HNO := Lib.hid (allIn_get (l := 0) (m := 3) hlt)
          subst hAA
          clear hcs hk hlt
          generalize ws[k]?.getD 0 = x at *
          by_cases h0 : x < 0
          · have e0 : decide (x < 0) = true := by simpa using h0
            have HF2 := Lib.hid (HG.out.2.1 HBP.out (.inl (HNO.out (inB_no (.inl h0)))))
            clear h0
            go_wp2_with fail
            go_ret
            exact ⟨ret_int (by rw [HF2.out]), HR.out.be⟩
          have e0 : decide (x < 0) = false := by simpa using h0
          by_cases h3 : 3 < x
          · have e3 : decide (x > 3) = true := by simpa using h3
            have HF2 := Lib.hid (HG.out.2.1 HBP.out (.inl (HNO.out (inB_no (.inr h3)))))
            clear h0 h3
            go_wp2_with fail
            go_ret
            exact ⟨ret_int (by rw [HF2.out]), HR.out.be⟩
          have e3 : decide (x > 3) = false := by simpa using h3
          have HNX := Lib.hid (show allIn 0 3 (ws.take (k + 1)) = true by rw [HTK.out, HT.out, inB_yes ⟨by omega, by omega⟩]; rfl)
          clear h0 h3
          go_wp2_with fail
          go_roundg (ws.length - (k + 1))
          case measure => have := HLT.out; omega
          case rel => exact ⟨k + 1, by go_num, by have := HLT.out; omega, HNX, HR⟩
        · have ek : decide ((k : Int) < (ws.length : Int)) = false := by simp; omega
          have ek2 : decide (k < ws.length) = false := by simpa using hlt
          have HA3 := Lib.hid (show allIn 0 3 ws = true by have := HT.out; rwa [List.take_of_length_le (by omega)] at this)
          clear hk hlt
          go_wp2_with fail
          clear t0 t1 t2 t3 t4 t5 t6 t7 t8 t9 t10 hl1
          go_loopg [7] os.length (fun g s7 wr => ∃ k : Nat, s7 = .int .i64 k ∧ k + g = os.length ∧ Hid (allIn 0 4 (os.take k) = true) ∧ Hid (Wb w wr w.heap.size c A B C D l ws os ds c1 c2 c3 c4))
          case atStart => exact ⟨0, rfl, by omega, Lib.hid rfl, HR⟩
          case round =>
            obtain ⟨k, rfl, hk, HT, HR⟩ := hrel
            obtain ⟨t0, t1, t2, t3, t4, t5, t6, t7, t8, t9, t10⟩ := eleven_at HR.out.box
            have hl1 := lt_of HR.out.box
            by_cases hlt : k < os.length
            · have ek : decide ((k : Int) < (os.length : Int)) = true := by simp; omega
              have ek2 : decide (k < os.length) = true := by simpa using hlt
              obtain ⟨b, off, hAA, hbl, hcs⟩ := ((HCC.out.ext HR.out.be) (by omega))
              have y0 := hcs k hlt
              have hkl : (k : Int) < (os.length : Int) := by omega
              have hk4 : (os.length : Int) ≤ 16 := by have := HZ.out; omega
              have HLT := Lib.hid (And.intro hk hlt)
              have HTK := Lib.hid (allIn_take (l := 0) (m := 4) hlt)
              have HNO := Lib.hid (allIn_get (l := 0) (m := 4) hlt)
              subst hAA
              clear hcs hk hlt
              generalize os[k]?.getD 0 = x at *
              by_cases h0 : x < 0
              · have e0 : decide (x < 0) = true := by simpa using h0
                have HF2 := Lib.hid (HG.out.2.1 HBP.out (.inr (HNO.out (inB_no (.inl h0)))))
                clear h0
                go_wp2_with fail
                go_ret
                exact ⟨ret_int (by rw [HF2.out]), HR.out.be⟩
              have e0 : decide (x < 0) = false := by simpa using h0
              by_cases h3 : 4 < x
              · have e3 : decide (x > 4) = true := by simpa using h3
                have HF2 := Lib.hid (HG.out.2.1 HBP.out (.inr (HNO.out (inB_no (.inr h3)))))
                clear h0 h3
                go_wp2_with fail
                go_ret
                exact ⟨ret_int (by rw [HF2.out]), HR.out.be⟩
              have e3 : decide (x > 4) = false := by simpa using h3
              have HNX := Lib.hid (show allIn 0 4 (os.take (k + 1)) = true by rw [HTK.out, HT.out, inB_yes ⟨by omega, by omega⟩]; rfl)
              clear h0 h3
              go_wp2_with fail
              go_roundg (os.length - (k + 1))
              case measure => have := HLT.out; omega
              case rel => exact ⟨k + 1, by go_num, by have := HLT.out; omega, HNX, HR⟩
            · have ek : decide ((k : Int) < (os.length : Int)) = false := by simp; omega
              have ek2 : decide (k < os.length) = false := by simpa using hlt
              have HF2 := Lib.hid (HG.out.2.2 HBP.out HA3.out (show allIn 0 4 os = true by have := HT.out; rwa [List.take_of_length_le (by omega)] at this))
              clear hk hlt
              go_wp2_with fail
              go_ret
              exact ⟨ret_int (by rw [HF2.out]), HR.out.be⟩
/-- What is wrong with a world is just why there is no machine. -/
theorem wrong_any (hA : SlR w A l) (hB : SlI w B ws) (hC : SlI w C os) (hf : ∀ i, i < l.length → (atR l i).ps.length ≤ 60) :
    Calls Tryd.prog 29 #[.agg #[.int .i64 c.co, .int .i64 c.gr, .int .i64 c.se, .int .i64 c.wa, .int .i64 c.de, .int .i64 c.en, .int .i64 c.ba, .slice A l.length c1, .slice B ws.length c2, .slice C os.length c3, .slice D ds.length c4]] w fun e w' => e = .returned (.int .i64 (newE11 c l ws os ds)) ∧ Below w.heap.size w w' := by
  by_cases hc : c.ok
  · by_cases h1 : (l.length : Int) = c.co
    · by_cases h2 : (ws.length : Int) = c.co
      · by_cases h3 : (os.length : Int) = c.gr
        · by_cases h4 : (ds.length : Int) = 4 * c.gr
          · exact wrong_go c A B C D l ws os ds c1 c2 c3 c4 w hc h1 h2 h3 h4 hA hB hC hf
          · have hN : newE11 c l ws os ds = 1 := by unfold newE11; rw [if_neg (by simpa using hc), if_pos (by omega)]
            rw [hN]
            exact wrong_len3 c A B C D l ws os ds c1 c2 c3 c4 w hc (by simpa using h1) (by simpa using h2) (by simpa using h3) (by simpa using h4)
        · have hN : newE11 c l ws os ds = 1 := by unfold newE11; rw [if_neg (by simpa using hc), if_pos (by omega)]
          rw [hN]
          exact wrong_len2 c A B C D l ws os ds c1 c2 c3 c4 w hc (by simpa using h1) (by simpa using h2) (by simpa using h3)
      · have hN : newE11 c l ws os ds = 1 := by unfold newE11; rw [if_neg (by simpa using hc), if_pos (by omega)]
        rw [hN]
        exact wrong_len1 c A B C D l ws os ds c1 c2 c3 c4 w hc (by simpa using h1) (by simpa using h2)
    · have hN : newE11 c l ws os ds = 1 := by unfold newE11; rw [if_neg (by simpa using hc), if_pos (by omega)]
      rw [hN]
      exact wrong_len0 c A B C D l ws os ds c1 c2 c3 c4 w hc (by simpa using h1)
  · have hN : newE11 c l ws os ds = 10 := by unfold newE11; rw [if_pos hc]
    rw [hN]
    exact wrong_cfg c A B C D l ws os ds c1 c2 c3 c4 w hc
end
end Go.Proofs.YtkobeajbiendlaaDoor
