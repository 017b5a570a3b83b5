/- What this text holds: the walk of the law TableWords. No condition. -/
import Derived.Test.YtnablldaaajhkaaLaw08B
namespace Go.Proofs.Ytnablldaaajhkaa
open Go.RowKit

set_option maxRecDepth 100000 in
set_option maxHeartbeats 8000000 in
theorem same_any (tp tg tb cap : Nat) (es : List En) (w : World) (hT : Tb w tp tg es) (hR : Rb w tb es) (hn : es.length ≤ 16) (hgood : Good es) :
    Calls Try.prog 37 #[.pointer (some ⟨tp, 0, none⟩), .slice (some ⟨tb, 0, none⟩) es.length cap] w fun e w' => e = .returned (.bool true) ∧ Below w.heap.size w w' := by
  have HT := Lib.hid hT
  have HR := Lib.hid hR
  have HG := Lib.hid hgood
  have hbl := hR.lt
  have HWl := Lib.hid (words_len es)
  clear hT hR hgood
  go_enter Try.func37, Try.ntmps37
  go_wp2_with fail
  go_loopg [5] (es.length + 2) (fun g5 s5 wr => ∃ k : Nat, k + g5 = es.length + 2 ∧ s5 = .int .i64 ((k : Int) - 1) ∧ Hid (Below w.heap.size w wr))
  case atStart => exact ⟨0, by omega, rfl, Below.refl _ _⟩
  case round =>
    obtain ⟨k, hk, rfl, HB⟩ := hrel
    obtain ⟨i, hi⟩ : ∃ i : Int, (k : Int) - 1 = i := ⟨_, rfl⟩
    rw [hi]
    have HI := Lib.hid hi
    have hsz := HB.out.size
    by_cases hkl : k < es.length + 2
    · have ek : decide (i ≤ (es.length : Int)) = true := by simp; omega
      have i0 : -1 ≤ i := by omega
      have i1 : i ≤ 16 := by omega
      by_cases h0 : i < 0
      · clear hi
        go_wp2_with fail
        refine (get_no tp tg es i _ (HT.out.ext HB.out) (.inl h0)).mono ?_
        rintro e w2 ⟨rfl, hb2⟩
        go_wp2_with fail
        go_roundg (es.length + 2 - (k + 1))
        case measure => omega
        case rel => exact ⟨k + 1, by omega, by have := HI.out; congr 1; omega, (HB.out.trans (hb2.mono hsz)).alloc (by have := hb2.size; omega) _⟩
      by_cases h1 : i = es.length
      · have hd : decide (i < 0) = false := by simp; omega
        have he : (i == (es.length : Int)) = true := by simp; exact h1
        have hle : (es.length : Int) ≤ i := by omega
        clear hi h1
        go_wp2_with fail
        refine (get_no tp tg es i _ (HT.out.ext HB.out) (.inr hle)).mono ?_
        rintro e w2 ⟨rfl, hb2⟩
        go_wp2_with fail
        go_roundg (es.length + 2 - (k + 1))
        case measure => omega
        case rel => exact ⟨k + 1, by omega, by have := HI.out; congr 1; omega, (HB.out.trans (hb2.mono hsz)).alloc (by have := hb2.size; omega) _⟩
      · have h2 : 0 ≤ i := by omega
        have h3 : i < es.length := by omega
        have hd : decide (i < 0) = false := by simp; omega
        have he : (i == (es.length : Int)) = false := by simp; exact h1
        clear hi h1 h0
        obtain ⟨j, rfl⟩ := Int.eq_ofNat_of_zero_le h2
        have hj : j < es.length := by omega
        go_wp2_with fail
        refine (get_yes tp tg es j _ (HT.out.ext HB.out) (by omega) (by omega)).mono ?_
        rintro e w2 ⟨rfl, hb2⟩
        rw [Int.toNat_natCast]
        have hs2 := hb2.size
        have r0 := (hb2.cell (p := ⟨tb, j * 2, none⟩) (by simp; omega)).trans ((HB.out.cell (p := ⟨tb, j * 2, none⟩) hbl).trans (HR.out.go j hj))
        have r1 := (hb2.cell (p := ⟨tb, j * 2 + 1, none⟩) (by simp; omega)).trans ((HB.out.cell (p := ⟨tb, j * 2 + 1, none⟩) hbl).trans (HR.out.gb j hj))
        have hbl2 : tb < w2.heap.size := by omega
        have HB2 := Lib.hid (HB.out.trans (hb2.mono hsz))
        have hsw : w.heap.size ≤ w2.heap.size := by omega
        clear hb2
        generalize atE es j = x at *
        obtain ⟨xo, xl⟩ := x
        go_wp2_with fail
        refine region_past (by kernel_rfl) (by kernel_rfl) ?_; (repeat (go_big_quiet_step ((go_at_call 46; exact calls_past (plainE_any _ _ _))))); refine wpQuiet_nil ?_; rintro _ ⟨p, rfl⟩
        go_wp2_with fail
        go_roundg (es.length + 2 - (k + 1))
        case measure => omega
        case rel => exact ⟨k + 1, by omega, by have := HI.out; congr 1; omega, by have := HB2.out; exact (this.alloc hsw _).trans ((Past.below _).mono (by simp; omega))⟩
    · have ek : decide (i ≤ (es.length : Int)) = false := by simp; omega
      clear hi hk
      have hWl20 : (wordsOf es).length ≤ 20 := by rw [HWl.out]; unfold ngr; omega
      go_wp2_with fail
      refine (words8_any tb cap es _ (HR.out.ext HB.out) hn HG.out).mono ?_
      rintro e w2 ⟨g8, rfl, ho2, hb2⟩
      have HB2 := Lib.hid (HB.out.trans (hb2.mono hsz))
      have HO2 := Lib.hid ho2
      clear hb2 ho2
      generalize hws : wordsOf es = ws at *
      have HWs := Lib.hid hws
      clear hws
      go_wp2_with fail
      go_loopg [9] (ws.length + 2) (fun g9 s9 wz => ∃ q : Nat, q + g9 = ws.length + 2 ∧ s9 = .int .i64 ((q : Int) - 1) ∧ Hid (OwnI wz wr.heap.size g8 ws) ∧ Hid (Below w.heap.size w wz))
      case atStart => exact ⟨0, by omega, rfl, HO2, HB2⟩
      case round =>
        obtain ⟨q, hq, rfl, HOz, HBz⟩ := hrel
        obtain ⟨i, hi⟩ : ∃ i : Int, (q : Int) - 1 = i := ⟨_, rfl⟩
        rw [hi]
        have HI := Lib.hid hi
        have hsz := HBz.out.size
        by_cases hkl : q < ws.length + 2
        · have ek : decide (i ≤ (ws.length : Int)) = true := by simp; omega
          have i0 : -1 ≤ i := by omega
          have i1 : i ≤ 20 := by omega
          by_cases h0 : i < 0
          · clear hi
            go_wp2_with fail
            refine (word_no tp tg es i _ (HT.out.ext HBz.out) hn HG.out (.inl h0)).mono ?_
            rintro e w3 ⟨rfl, hb3⟩
            go_wp2_with fail
            go_roundg (ws.length + 2 - (q + 1))
            case measure => omega
            case rel => exact ⟨q + 1, by omega, by have := HI.out; congr 1; omega, HOz.out.ext hb3, HBz.out.trans (hb3.mono hsz)⟩
          by_cases h1 : i = ws.length
          · have hd : decide (i < 0) = false := by simp; omega
            have he : (i == (ws.length : Int)) = true := by simp; exact h1
            have hle : Hid (((wordsOf es).length : Int) ≤ i) := Lib.hid (by rw [HWs.out]; omega)
            clear hi h1
            go_wp2_with fail
            refine (word_no tp tg es i _ (HT.out.ext HBz.out) hn HG.out (.inr hle.out)).mono ?_
            rintro e w3 ⟨rfl, hb3⟩
            go_wp2_with fail
            go_roundg (ws.length + 2 - (q + 1))
            case measure => omega
            case rel => exact ⟨q + 1, by omega, by have := HI.out; congr 1; omega, HOz.out.ext hb3, HBz.out.trans (hb3.mono hsz)⟩
          · have h2 : 0 ≤ i := by omega
            have h3 : i < ws.length := by omega
            have hd : decide (i < 0) = false := by simp; omega
            have he : (i == (ws.length : Int)) = false := by simp; exact h1
            clear hi h1 h0
            obtain ⟨j, rfl⟩ := Int.eq_ofNat_of_zero_le h2
            have hj : j < ws.length := by omega
            have hjw : Hid ((j : Int) < ((wordsOf es).length : Int)) := Lib.hid (by rw [HWs.out]; exact h3)
            have HV : Hid ((wordsOf es)[((j : Int)).toNat]?.getD 0 = ws[j]?.getD 0) := Lib.hid (by rw [HWs.out, Int.toNat_natCast])
            go_wp2_with fail
            refine (word_yes tp tg es j _ (HT.out.ext HBz.out) hn HG.out (by omega) hjw.out).mono ?_
            rintro e w3 ⟨rfl, hb3⟩
            rw [HV.out]
            have HO3 := Lib.hid (HOz.out.ext hb3)
            have HB3 := Lib.hid (HBz.out.trans (hb3.mono hsz))
            have c3 := HO3.out.cell j hj
            have l3 := HO3.out.lt
            clear hb3
            generalize ws[j]?.getD 0 = y at *
            go_wp2_with fail
            go_roundg (ws.length + 2 - (q + 1))
            case measure => omega
            case rel => exact ⟨q + 1, by omega, by have := HI.out; congr 1; omega, HO3, HB3⟩
        · have ek : decide (i ≤ (ws.length : Int)) = false := by simp; omega
          clear hi hq
          have hW := words_any tp tg es wr (HT.out.ext HBz.out) hn HG.out
          rw [HWs.out] at hW
          have HW := Lib.hid hW
          clear hW
          go_wp2_with fail
          refine HW.out.mono ?_
          rintro e w3 ⟨A, cap3, rfl, hs3, _, hb3⟩
          have HB3 := Lib.hid (HBz.out.trans (hb3.mono hsz))
          have HO3 := Lib.hid (HOz.out.ext hb3)
          have HS3 := Lib.hid hs3
          clear hb3 hs3
          go_wp2_with fail
          refine (ints_any A _ ws ws ws.length _ _ _ HS3.out HO3.out.sl rfl rfl (by omega)).mono ?_
          rintro e w4 ⟨rfl, hb4⟩
          have HB4 := Lib.hid (HB3.out.trans (hb4.mono HB3.out.size))
          rw [show decide (ws = ws) = true from by simp]
          clear hb4
          go_wp2_with fail
          go_ret
          exact ⟨rfl, HB4.out⟩

set_option maxRecDepth 100000 in
set_option maxHeartbeats 4000000 in
theorem words_many (g : Int) (A : Option Addr) (n cap : Nat) (w : World) (h : 40 < n) :
    Calls Try.prog 10 #[.int .i64 g, .slice A n cap] w fun e w' => e = .returned (.bool true) ∧ Below w.heap.size w w' := by
  go_enter Try.func10, Try.ntmps10
  go_wp2_with fail
  refine (awake08 _).mono ?_
  rintro e w1 ⟨rfl, hb1⟩
  go_wp2_with fail
  go_ret
  exact ⟨rfl, (by repeat (with_reducible first | exact Below.refl _ _ | assumption | (refine ext_next (by assumption) ?_) | apply ext_alloc | apply ext_past | apply ext_drew | apply ext_drewN))⟩

set_option maxRecDepth 100000 in
set_option maxHeartbeats 4000000 in
theorem words_out (g : Int) (A : Option Addr) (n cap : Nat) (w : World) (hn : n ≤ 40) (h : g < 1 ∨ 16 < g) :
    Calls Try.prog 10 #[.int .i64 g, .slice A n cap] w fun e w' => e = .returned (.bool true) ∧ Below w.heap.size w w' := by
  have f0 : decide ((n : Int) > 40) = false := by simp; omega
  have H := Lib.hid h
  by_cases h1 : g < 1
  · clear h
    go_enter Try.func10, Try.ntmps10
    go_wp2_with fail
    refine (new_no g _ H.out).mono ?_
    rintro e w1 ⟨rfl, hb1⟩
    go_wp2_with fail
    refine (awake08 _).mono ?_
    rintro e w2 ⟨rfl, hb2⟩
    go_wp2_with fail
    go_ret
    exact ⟨rfl, (by repeat (with_reducible first | exact Below.refl _ _ | assumption | (refine ext_next (by assumption) ?_) | apply ext_alloc | apply ext_past | apply ext_drew | apply ext_drewN))⟩
  · have h2 : 16 < g := by omega
    have f1 : decide (g < 1) = false := by simp; omega
    clear h h1
    go_enter Try.func10, Try.ntmps10
    go_wp2_with fail
    refine (new_no g _ H.out).mono ?_
    rintro e w1 ⟨rfl, hb1⟩
    go_wp2_with fail
    refine (awake08 _).mono ?_
    rintro e w2 ⟨rfl, hb2⟩
    go_wp2_with fail
    go_ret
    exact ⟨rfl, (by repeat (with_reducible first | exact Below.refl _ _ | assumption | (refine ext_next (by assumption) ?_) | apply ext_alloc | apply ext_past | apply ext_drew | apply ext_drewN))⟩

set_option maxRecDepth 100000 in
set_option maxHeartbeats 8000000 in
theorem words_in (n : Nat) (a : Addr) (cap : Nat) (ops : List Op8) (w : World) (hO : SlO w (some a) ops) (h1 : 1 ≤ n) (h2 : n ≤ 16) (hl : ops.length ≤ 40) (hc : ops.length ≤ cap) (_hcm : cap ≤ maxLen) :
    Calls Try.prog 10 #[.int .i64 n, .slice (some a) ops.length cap] w fun e w' => e = .returned (.bool true) ∧ Below w.heap.size w w' := by
  have f1 : decide ((n : Int) < 1) = false := by simp; omega
  have f2 : decide ((n : Int) > 16) = false := by simp; omega
  have f3 : decide ((ops.length : Int) > 40) = false := by simp; omega
  have HO := Lib.hid hO
  clear hO
  go_enter Try.func10, Try.ntmps10
  go_wp2_with fail
  go_loopg [7] (ops.length + 1) (fun g7 s7 wr => ∃ k : Nat, k + g7 = ops.length + 1 ∧ s7 = .int .i64 k ∧ Hid (Below w.heap.size w wr))
  case atStart => exact ⟨0, by omega, rfl, Below.refl _ _⟩
  case round =>
    obtain ⟨k, hk, rfl, HB⟩ := hrel
    have hsz := HB.out.size
    by_cases hkl : k ≤ ops.length
    · have ek : decide ((k : Int) ≤ (ops.length : Int)) = true := by simp; omega
      have HTk : Hid (SlO w (some a) (ops.take k) ∧ (ops.take k).length = k) := Lib.hid (by
        have hlen : (ops.take k).length = k := by simp; omega
        refine ⟨fun h0 => ?_, hlen⟩
        obtain ⟨b', off', hA, hb, hcs⟩ := HO.out (by omega)
        refine ⟨b', off', hA, hb, fun i hi => ?_⟩
        have hik : i < k := by omega
        have e : atO (ops.take k) i = atO ops i := by simp [atO, hik]
        rw [e]
        exact hcs i (by omega))
      generalize ops.take k = opk at HTk
      have HM := made_any n (some a) cap opk wr (HTk.out.1.ext HB.out) h1 h2 (by rw [HTk.out.2]; omega)
      rw [HTk.out.2] at HM
      have HLen := Lib.hid (play8_len n opk)
      have HGood := Lib.hid (play8_good n opk)
      generalize play8 n opk = es at *
      have HMh := Lib.hid HM
      clear HM
      go_wp2_with fail
      refine HMh.out.mono ?_
      rintro e w1 ⟨p, g, tb, rfl, hM⟩
      have HM1 := Lib.hid hM
      have hs1 := hM.below.size
      clear hM
      have HS1 := same_any p g tb n es w1 HM1.out.tb HM1.out.rb (by rw [HLen.out]; exact h2) HGood.out
      rw [HLen.out] at HS1
      have HS1h := Lib.hid HS1
      clear HS1
      go_wp2_with fail
      refine HS1h.out.mono ?_
      rintro e w2 ⟨rfl, hb2⟩
      have HM2 := Lib.hid (HM1.out.ext hb2)
      have hs2 := hb2.size
      clear hb2 HS1h
      go_wp2_with fail
      refine (copy_any p g es _ HM2.out.tb (by rw [HLen.out]; exact h1) (by rw [HLen.out]; exact h2)).mono ?_
      rintro e w3 ⟨p2, g2, rfl, hT3, hp2, hg2, hb3⟩
      have HM3 := Lib.hid (HM2.out.ext hb3)
      have HT3 := Lib.hid hT3
      have hgl := HM2.out.tb.gl
      have hs3 := hb3.size
      clear hb3 hT3
      have HS3 := same_any p2 g2 tb n es w3 HT3.out HM3.out.rb (by rw [HLen.out]; exact h2) HGood.out
      rw [HLen.out] at HS3
      have HS3h := Lib.hid HS3
      clear HS3
      go_wp2_with fail
      refine HS3h.out.mono ?_
      rintro e w4 ⟨rfl, hb4⟩
      have HM4 := Lib.hid (HM3.out.ext hb4)
      have HT4 := Lib.hid (HT3.out.ext hb4)
      clear hb4 HS3h
      go_wp2_with fail
      refine (set_yes p g es 0 3 true _ HM4.out.tb (by omega) (by rw [HLen.out]; omega) (by decide)).mono ?_
      rintro e w5 ⟨rfl, hg5, hT5⟩
      have HT5 := Lib.hid (HT4.out.grown hg5 (fun e => by have := Option.some.inj e; omega) (fun e => by have := Option.some.inj e; omega))
      have HR5 := Lib.hid (HM4.out.rb.grown hg5 (fun e => HM4.out.bg (Option.some.inj e)))
      have HB5 := Lib.hid (grown_below (HB.out.trans (HM4.out.below.mono hsz)) hg5 (by have := HM4.out.ng; omega))
      clear hg5 hT5
      have HS5 := same_any p2 g2 tb n es w5 HT5.out HR5.out (by rw [HLen.out]; exact h2) HGood.out
      rw [HLen.out] at HS5
      have HS5h := Lib.hid HS5
      clear HS5
      go_wp2_with fail
      refine HS5h.out.mono ?_
      rintro e w6 ⟨rfl, hb6⟩
      have HB6 := Lib.hid (HB5.out.trans (hb6.mono HB5.out.size))
      clear hb6 HS5h
      go_wp2_with fail
      go_roundg (ops.length + 1 - (k + 1))
      case measure => omega
      case rel => exact ⟨k + 1, by omega, by go_num, HB6⟩
    · have ek : decide ((k : Int) ≤ (ops.length : Int)) = false := by simp; omega
      clear hk
      go_wp2_with fail
      refine (awake08 _).mono ?_
      rintro e w1 ⟨rfl, hb1⟩
      have HB1 := Lib.hid (HB.out.trans (hb1.mono hsz))
      clear hb1
      go_wp2_with fail
      go_ret
      exact ⟨rfl, HB1.out⟩

set_option maxRecDepth 100000 in
set_option maxHeartbeats 8000000 in
theorem words_in0 (n : Nat) (w : World) (h1 : 1 ≤ n) (h2 : n ≤ 16) :
    Calls Try.prog 10 #[.int .i64 n, .slice none 0 0] w fun e w' => e = .returned (.bool true) ∧ Below w.heap.size w w' := by
  have f1 : decide ((n : Int) < 1) = false := by simp; omega
  have f2 : decide ((n : Int) > 16) = false := by simp; omega
  go_enter Try.func10, Try.ntmps10
  go_wp2_with fail
  go_loopg [7] 1 (fun g7 s7 wr => ∃ k : Nat, k + g7 = 1 ∧ s7 = .int .i64 k ∧ Hid (Below w.heap.size w wr))
  case atStart => exact ⟨0, by omega, rfl, Below.refl _ _⟩
  case round =>
    obtain ⟨k, hk, rfl, HB⟩ := hrel
    have hsz := HB.out.size
    by_cases hkl : k ≤ 0
    · obtain rfl : k = 0 := by omega
      have HM := made_any n none 0 ([] : List Op8) wr (fun h => absurd h (by simp)) h1 h2 (by simp)
      generalize hop : ([] : List Op8) = opk at HM
      have HLen := Lib.hid (play8_len n opk)
      have HGood := Lib.hid (play8_good n opk)
      generalize play8 n opk = es at *
      have HMh : Hid (Calls Try.prog 26 #[.int .i64 n, .slice none 0 0] wr fun e w' => ∃ p g b, e = .returned (.tuple #[.pointer (some ⟨p, 0, none⟩), .slice (some ⟨b, 0, none⟩) n n, .bool true]) ∧ Made wr w' p g b es) := Lib.hid (by rw [← hop] at HM; exact HM)
      clear HM hop
      go_wp2_with fail
      refine HMh.out.mono ?_
      rintro e w1 ⟨p, g, tb, rfl, hM⟩
      have HM1 := Lib.hid hM
      have hs1 := hM.below.size
      clear hM
      have HS1 := same_any p g tb n es w1 HM1.out.tb HM1.out.rb (by rw [HLen.out]; exact h2) HGood.out
      rw [HLen.out] at HS1
      have HS1h := Lib.hid HS1
      clear HS1
      go_wp2_with fail
      refine HS1h.out.mono ?_
      rintro e w2 ⟨rfl, hb2⟩
      have HM2 := Lib.hid (HM1.out.ext hb2)
      have hs2 := hb2.size
      clear hb2 HS1h
      go_wp2_with fail
      refine (copy_any p g es _ HM2.out.tb (by rw [HLen.out]; exact h1) (by rw [HLen.out]; exact h2)).mono ?_
      rintro e w3 ⟨p2, g2, rfl, hT3, hp2, hg2, hb3⟩
      have HM3 := Lib.hid (HM2.out.ext hb3)
      have HT3 := Lib.hid hT3
      have hgl := HM2.out.tb.gl
      have hs3 := hb3.size
      clear hb3 hT3
      have HS3 := same_any p2 g2 tb n es w3 HT3.out HM3.out.rb (by rw [HLen.out]; exact h2) HGood.out
      rw [HLen.out] at HS3
      have HS3h := Lib.hid HS3
      clear HS3
      go_wp2_with fail
      refine HS3h.out.mono ?_
      rintro e w4 ⟨rfl, hb4⟩
      have HM4 := Lib.hid (HM3.out.ext hb4)
      have HT4 := Lib.hid (HT3.out.ext hb4)
      clear hb4 HS3h
      go_wp2_with fail
      refine (set_yes p g es 0 3 true _ HM4.out.tb (by omega) (by rw [HLen.out]; omega) (by decide)).mono ?_
      rintro e w5 ⟨rfl, hg5, hT5⟩
      have HT5 := Lib.hid (HT4.out.grown hg5 (fun e => by have := Option.some.inj e; omega) (fun e => by have := Option.some.inj e; omega))
      have HR5 := Lib.hid (HM4.out.rb.grown hg5 (fun e => HM4.out.bg (Option.some.inj e)))
      have HB5 := Lib.hid (grown_below (HB.out.trans (HM4.out.below.mono hsz)) hg5 (by have := HM4.out.ng; omega))
      clear hg5 hT5
      have HS5 := same_any p2 g2 tb n es w5 HT5.out HR5.out (by rw [HLen.out]; exact h2) HGood.out
      rw [HLen.out] at HS5
      have HS5h := Lib.hid HS5
      clear HS5
      go_wp2_with fail
      refine HS5h.out.mono ?_
      rintro e w6 ⟨rfl, hb6⟩
      have HB6 := Lib.hid (HB5.out.trans (hb6.mono HB5.out.size))
      clear hb6 HS5h
      go_wp2_with fail
      go_roundg 0
      case measure => omega
      case rel => exact ⟨1, by omega, rfl, HB6⟩
    · have ek : decide ((k : Int) ≤ 0) = false := by simp; omega
      clear hk
      go_wp2_with fail
      refine (awake08 _).mono ?_
      rintro e w1 ⟨rfl, hb1⟩
      have HB1 := Lib.hid (HB.out.trans (hb1.mono hsz))
      clear hb1
      go_wp2_with fail
      go_ret
      exact ⟨rfl, HB1.out⟩

theorem words_walk (x : Int) (A : Option Addr) (cap : Nat) (ops : List Op8) (w : World) (hO : SlO w A ops) (hc : ops.length ≤ cap) (hcm : cap ≤ maxLen) (hA : A = none → cap = 0) :
    Calls Try.prog 10 #[.int .i64 x, .slice A ops.length cap] w fun e w' => e = .returned (.bool true) ∧ Below w.heap.size w w' := by
  by_cases h0 : 40 < ops.length
  · exact words_many x A ops.length cap w h0
  by_cases h : x < 1 ∨ 16 < x
  · exact words_out x A ops.length cap w (by omega) h
  · obtain ⟨n, rfl⟩ := Int.eq_ofNat_of_zero_le (a := x) (by omega)
    cases A with
    | none =>
      obtain rfl := hA rfl
      have : ops = [] := List.eq_nil_of_length_eq_zero (by omega)
      subst this
      exact words_in0 n w (by omega) (by omega)
    | some a => exact words_in n a cap ops w hO (by omega) (by omega) (by omega) hc hcm

end Go.Proofs.Ytnablldaaajhkaa
