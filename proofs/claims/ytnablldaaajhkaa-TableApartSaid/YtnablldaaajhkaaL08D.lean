/- What this text holds: the walk of the law TableApart. No condition. -/
import Derived.Test.YtnablldaaajhkaaLaw08B
namespace Go.Proofs.Ytnablldaaajhkaa
open Go.RowKit

/-- What the law carries: the table, its copy of before, the call. -/
structure Ap (W w : World) (p g p2 g2 B : Nat) (es1 es : List En) (G ow : Int) (lk : Bool) : Prop where
  tb : Tb w p g es1
  tc : Tb w p2 g2 es
  k : C3 w B G ow lk
  below : Below W.heap.size W w
theorem Ap.ext {W w w' : World} {p g p2 g2 B : Nat} {es1 es : List En} {G ow : Int} {lk : Bool} (h : Ap W w p g p2 g2 B es1 es G ow lk) (hb : Below w.heap.size w w') : Ap W w' p g p2 g2 B es1 es G ow lk :=
  ⟨h.tb.ext hb, h.tc.ext hb, h.k.ext hb, h.below.trans (hb.mono h.below.size)⟩

set_option maxRecDepth 100000 in
set_option maxHeartbeats 4000000 in
theorem apart_out (g : Int) (A : Option Addr) (n cap : Nat) (G ow : Int) (lk : Bool) (w : World) (h : g < 1 ∨ 16 < g ∨ 40 < n) :
    Calls Try.prog 12 #[.int .i64 g, .slice A n cap, .agg #[.int .i64 G, .int .i64 ow, .bool lk]] w fun e w' => e = .returned (.bool true) ∧ Below w.heap.size w w' := by
  by_cases h1 : g < 1
  · go_enter Try.func12, Try.ntmps12
    go_wp2_with fail
    refine (awake08 _).mono ?_
    rintro e w1 ⟨rfl, hb1⟩
    go_wp2_with fail
    go_ret
    exact ⟨rfl, (by repeat (with_reducible first | exact Below.refl _ _ | assumption | (refine ext_next (by assumption) ?_) | apply ext_alloc | apply ext_past | apply ext_drew | apply ext_drewN))⟩
  by_cases h2 : 16 < g
  · go_enter Try.func12, Try.ntmps12
    go_wp2_with fail
    refine (awake08 _).mono ?_
    rintro e w1 ⟨rfl, hb1⟩
    go_wp2_with fail
    go_ret
    exact ⟨rfl, (by repeat (with_reducible first | exact Below.refl _ _ | assumption | (refine ext_next (by assumption) ?_) | apply ext_alloc | apply ext_past | apply ext_drew | apply ext_drewN))⟩
  · have h3 : 40 < n := by omega
    clear h
    go_enter Try.func12, Try.ntmps12
    go_wp2_with fail
    refine (awake08 _).mono ?_
    rintro e w1 ⟨rfl, hb1⟩
    go_wp2_with fail
    go_ret
    exact ⟨rfl, (by repeat (with_reducible first | exact Below.refl _ _ | assumption | (refine ext_next (by assumption) ?_) | apply ext_alloc | apply ext_past | apply ext_drew | apply ext_drewN))⟩

set_option maxRecDepth 100000 in
set_option maxHeartbeats 8000000 in
theorem apart_no (n : Nat) (A : Option Addr) (cap : Nat) (ops : List Op8) (G ow : Int) (lk : Bool) (w : World) (hO : SlO w A ops) (h1 : 1 ≤ n) (h2 : n ≤ 16) (hl : ops.length ≤ 40) (hno : ¬ (0 ≤ G ∧ G < n ∧ ownB ow = true)) :
    Calls Try.prog 12 #[.int .i64 n, .slice A ops.length cap, .agg #[.int .i64 G, .int .i64 ow, .bool lk]] w fun e w' => e = .returned (.bool true) ∧ Below w.heap.size w w' := by
  have f1 : decide ((n : Int) < 1) = false := by simp; omega
  have f2 : decide ((n : Int) > 16) = false := by simp; omega
  have f3 : decide ((ops.length : Int) > 40) = false := by simp; omega
  have HO := Lib.hid hO
  have HNo := Lib.hid hno
  clear hO hno
  go_enter Try.func12, Try.ntmps12
  go_wp2_with fail
  refine (made_any n A cap ops _ (HO.out.ext (ext_alloc _ (Below.refl _ _))) h1 h2 hl).mono ?_
  rintro e w1 ⟨p, g, b, rfl, hM⟩
  have HLen := Lib.hid (play8_len n ops)
  have HGood := Lib.hid (play8_good n ops)
  generalize play8 n ops = es at *
  have K1 := (C3.made w G ow lk 59).ext hM.below
  have B1 : Hid (Below w.heap.size w w1) := Lib.hid (ext_next hM.below (ext_alloc _ (Below.refl _ _)))
  have hgg : w.heap.size < g := by have := hM.ng; simp at this; omega
  have hpp : w.heap.size < p := by have := hM.np; simp at this; omega
  have HT1 := Lib.hid hM.tb
  have HK1 := Lib.hid K1
  clear hM K1
  go_wp2_with fail
  refine (copy_any p g es _ HT1.out (by rw [HLen.out]; exact h1) (by rw [HLen.out]; exact h2)).mono ?_
  rintro e w2 ⟨p2, g2, rfl, hT2, hp2, hg2, hb2⟩
  have HB2 : Hid (Ap w w2 p g p2 g2 w.heap.size es es G ow lk) := Lib.hid ⟨HT1.out.ext hb2, hT2, HK1.out.ext hb2, ext_next hb2 B1.out⟩
  have hpg : p2 ≠ g := by have := HT1.out.gl; omega
  have hgg2 : g2 ≠ g := by have := HT1.out.gl; omega
  clear hT2 hb2 HT1 HK1 B1
  obtain ⟨kl, k0, k1, k2⟩ := HB2.out.k
  go_wp2_with fail
  refine (set_no p g es G ow lk _ HB2.out.tb (by rw [HLen.out]; exact HNo.out)).mono ?_
  rintro e w3 ⟨rfl, hb3⟩
  have HB3 := Lib.hid (HB2.out.ext hb3)
  have HL1 := HLen
  have HG1 := HGood
  have HAt : Hid (∀ k : Nat, atE es k = atE es k) := Lib.hid (fun _ => rfl)
  have HMe : Hid (∀ k : Nat, grpW es k = grpW es k) := Lib.hid (fun _ => rfl)
  have HGr := HMe
  skip
  clear hb3 kl k0 k1 k2
  skip
  go_wp2_with fail
  go_loopg [12] n (fun g12 s12 wr => ∃ k : Nat, k + g12 = n ∧ s12 = .int .i64 k ∧ Hid (Ap w wr p g p2 g2 w.heap.size es es G ow lk))
  case atStart => exact ⟨0, by omega, rfl, HB3⟩
  case round =>
    obtain ⟨k, hk, rfl, HR⟩ := hrel
    by_cases hkn : k < n
    · have ek : decide ((k : Int) < (n : Int)) = true := by simp; omega
      have hwk : (((ngr n : Nat) : Int) + (k : Int)).toNat = ngr n + k := by omega
      have hw1 : Hid ((wordsOf es)[(((ngr n : Nat) : Int) + (k : Int)).toNat]?.getD 0 = entW (atE es k)) := by
        show _ = _
        have := words_ent (es := es) (i := k) (by rw [HL1.out]; exact hkn)
        rw [HL1.out] at this
        rw [hwk, this]
        rfl
      have hw2 : Hid ((wordsOf es)[(((ngr n : Nat) : Int) + (k : Int)).toNat]?.getD 0 = entW (atE es k)) := by
        show _ = _
        have := words_ent (es := es) (i := k) (by rw [HLen.out]; exact hkn)
        rw [HLen.out] at this
        rw [hwk, this]
        rfl
      have hl1 : Hid (((ngr n : Nat) : Int) + (k : Int) < ((wordsOf es).length : Int)) := Lib.hid (by rw [words_len, HL1.out]; omega)
      have hl2 : Hid (((ngr n : Nat) : Int) + (k : Int) < ((wordsOf es).length : Int)) := Lib.hid (by rw [words_len, HLen.out]; omega)
      clear hwk
      obtain ⟨ao, al, ha⟩ : ∃ ao al, atE es k = (ao, al) := ⟨_, _, rfl⟩
      have hx := ha
      have HA := Lib.hid ha
      have HX := Lib.hid hx
      clear ha hx
      go_wp2_with fail
      refine (get_yes p g es k _ HR.out.tb (by omega) (by rw [HL1.out]; omega)).mono ?_
      rintro e w4 ⟨rfl, hb4⟩
      rw [Int.toNat_natCast, HA.out]
      have HR4 := Lib.hid (HR.out.ext hb4)
      clear hb4
      go_wp2_with fail
      refine (get_yes p2 g2 es k _ (HR4.out.tc.ext (ext_alloc _ (Below.refl _ _))) (by omega) (by rw [HLen.out]; omega)).mono ?_
      rintro e w5 ⟨rfl, hb5⟩
      rw [Int.toNat_natCast, HX.out]
      have HR5 := Lib.hid (HR4.out.ext (ext_next hb5 (ext_alloc _ (Below.refl _ _))))
      have X5 := Lib.hid ((C2.made w4 ao al 57).ext hb5)
      clear hb5 HR HR4
      go_wp2_with fail
      refine (own_any n k _ h2 (by omega)).mono ?_
      rintro e w' ⟨rfl, hw⟩
      rw [hw]
      clear hw w'
      go_wp2_with fail
      refine (word_yes p g es (((ngr n : Nat) : Int) + (k : Int)) _ (HR5.out.tb.ext (ext_alloc _ (Below.refl _ _))) (by rw [HL1.out]; exact h2) HG1.out (by omega) hl1.out).mono ?_
      rintro e w6 ⟨rfl, hb6⟩
      rw [hw1.out, HA.out]
      have b6 := ext_next hb6 (ext_alloc _ (Below.refl w5.heap.size w5))
      have HR6 := Lib.hid (HR5.out.ext b6)
      have X6 := Lib.hid (X5.out.ext b6)
      have Y6 := Lib.hid ((C2.made w5 ao al 57).ext hb6)
      clear hb6 b6 HR5 X5
      go_wp2_with fail
      refine (own_any n k _ h2 (by omega)).mono ?_
      rintro e w' ⟨rfl, hw⟩
      rw [hw]
      clear hw w'
      go_wp2_with fail
      refine (word_yes p2 g2 es (((ngr n : Nat) : Int) + (k : Int)) _ HR6.out.tc (by rw [HLen.out]; exact h2) HGood.out (by omega) hl2.out).mono ?_
      rintro e w7 ⟨rfl, hb7⟩
      rw [hw2.out, HX.out]
      have HR7 := Lib.hid (HR6.out.ext hb7)
      obtain ⟨m0, m1, m2⟩ := X6.out.ext hb7
      obtain ⟨n0, n1, n2⟩ := Y6.out.ext hb7
      obtain ⟨kl, k0, k1, k2⟩ := HR7.out.k
      generalize hea : entW (ao, al) = ea
      have HEA := Lib.hid hea
      clear hea
      clear hb7 HR6 X6 Y6
      cases hG : ((k : Int) == G)
      · have hG3 : ((k : Int) != G) = true := by simp at hG ⊢; exact hG
        go_wp2_with fail
        go_roundg (n - (k + 1))
        case measure => omega
        case rel => exact ⟨k + 1, by omega, by go_num, HR7⟩
      · have hG3 : ((k : Int) != G) = false := by simp at hG ⊢; exact hG
        go_wp2_with fail
        go_roundg (n - (k + 1))
        case measure => omega
        case rel => exact ⟨k + 1, by omega, by go_num, HR7⟩
    · have ek : decide ((k : Int) < (n : Int)) = false := by simp; omega
      clear hk
      go_wp2_with fail
      go_loopg [21] (ngr n) (fun g21 s21 wz => ∃ k : Nat, k + g21 = ngr n ∧ s21 = .int .i64 k ∧ Hid (Ap w wz p g p2 g2 w.heap.size es es G ow lk))
      case atStart => exact ⟨0, by omega, rfl, HR⟩
      case round =>
        obtain ⟨q, hq, rfl, HZ⟩ := hrel
        have hng : ngr n ≤ 4 := by unfold ngr; omega
        go_wp2_with fail
        refine (own_any n 0 _ h2 (by omega)).mono ?_
        rintro e w' ⟨rfl, hw⟩
        rw [hw]
        clear hw w'
        by_cases hqn : q < ngr n
        · have eq : decide ((q : Int) < (ngr n : Int)) = true := by simp; omega
          have hv1 : Hid ((wordsOf es)[((q : Int)).toNat]?.getD 0 = grpW es q) := by
            show _ = _
            rw [Int.toNat_natCast, words_grp (by rw [HL1.out]; exact hqn)]
            rfl
          have hv2 : Hid ((wordsOf es)[((q : Int)).toNat]?.getD 0 = grpW es q) := by
            show _ = _
            rw [Int.toNat_natCast, words_grp (by rw [HLen.out]; exact hqn)]
            rfl
          have hl1 : Hid ((q : Int) < ((wordsOf es).length : Int)) := Lib.hid (by rw [words_len, HL1.out]; omega)
          have hl2 : Hid ((q : Int) < ((wordsOf es).length : Int)) := Lib.hid (by rw [words_len, HLen.out]; omega)
          go_wp2_with fail
          refine (word_yes p g es q _ HZ.out.tb (by rw [HL1.out]; exact h2) HG1.out (by omega) hl1.out).mono ?_
          rintro e w4 ⟨rfl, hb4⟩
          rw [hv1.out]
          have HZ4 := Lib.hid (HZ.out.ext hb4)
          clear hb4
          go_wp2_with fail
          refine (word_yes p2 g2 es q _ HZ4.out.tc (by rw [HLen.out]; exact h2) HGood.out (by omega) hl2.out).mono ?_
          rintro e w5 ⟨rfl, hb5⟩
          rw [hv2.out]
          have HZ5 := Lib.hid (HZ4.out.ext hb5)
          obtain ⟨kl, k0, k1, k2⟩ := HZ5.out.k
          clear hb5
          generalize grpW es q = gw
          go_wp2_with fail
          go_roundg (ngr n - (q + 1))
          case measure => omega
          case rel => exact ⟨q + 1, by omega, by go_num, HZ5⟩
        · have eq : decide ((q : Int) < (ngr n : Int)) = false := by simp; omega
          clear hq
          go_wp2_with fail
          refine (awake08 _).mono ?_
          rintro e w4 ⟨rfl, hb4⟩
          have HZ4 := Lib.hid (HZ.out.ext hb4)
          clear hb4
          go_wp2_with fail
          go_ret
          exact ⟨rfl, HZ4.out.below⟩

set_option maxRecDepth 100000 in
set_option maxHeartbeats 8000000 in
theorem apart_yes (n : Nat) (A : Option Addr) (cap : Nat) (ops : List Op8) (j : Nat) (ow : Int) (lk : Bool) (w : World) (hO : SlO w A ops) (h1 : 1 ≤ n) (h2 : n ≤ 16) (hl : ops.length ≤ 40) (hj : j < n) (how : ownB ow = true) :
    Calls Try.prog 12 #[.int .i64 n, .slice A ops.length cap, .agg #[.int .i64 j, .int .i64 ow, .bool lk]] w fun e w' => e = .returned (.bool true) ∧ Below w.heap.size w w' := by
  have f1 : decide ((n : Int) < 1) = false := by simp; omega
  have f2 : decide ((n : Int) > 16) = false := by simp; omega
  have f3 : decide ((ops.length : Int) > 40) = false := by simp; omega
  have HO := Lib.hid hO
  have HNo := Lib.hid how
  clear hO how
  go_enter Try.func12, Try.ntmps12
  go_wp2_with fail
  refine (made_any n A cap ops _ (HO.out.ext (ext_alloc _ (Below.refl _ _))) h1 h2 hl).mono ?_
  rintro e w1 ⟨p, g, b, rfl, hM⟩
  have HLen := Lib.hid (play8_len n ops)
  have HGood := Lib.hid (play8_good n ops)
  generalize play8 n ops = es at *
  have K1 := (C3.made w j ow lk 59).ext hM.below
  have B1 : Hid (Below w.heap.size w w1) := Lib.hid (ext_next hM.below (ext_alloc _ (Below.refl _ _)))
  have hgg : w.heap.size < g := by have := hM.ng; simp at this; omega
  have hpp : w.heap.size < p := by have := hM.np; simp at this; omega
  have HT1 := Lib.hid hM.tb
  have HK1 := Lib.hid K1
  clear hM K1
  go_wp2_with fail
  refine (copy_any p g es _ HT1.out (by rw [HLen.out]; exact h1) (by rw [HLen.out]; exact h2)).mono ?_
  rintro e w2 ⟨p2, g2, rfl, hT2, hp2, hg2, hb2⟩
  have HB2 : Hid (Ap w w2 p g p2 g2 w.heap.size es es j ow lk) := Lib.hid ⟨HT1.out.ext hb2, hT2, HK1.out.ext hb2, ext_next hb2 B1.out⟩
  have hpg : p2 ≠ g := by have := HT1.out.gl; omega
  have hgg2 : g2 ≠ g := by have := HT1.out.gl; omega
  clear hT2 hb2 HT1 HK1 B1
  obtain ⟨kl, k0, k1, k2⟩ := HB2.out.k
  go_wp2_with fail
  refine (set_yes p g es j ow lk _ HB2.out.tb (by omega) (by rw [HLen.out]; omega) HNo.out).mono ?_
  rintro e w3 ⟨rfl, hg3, hT3⟩
  rw [Int.toNat_natCast] at hT3
  have HL1 : Hid ((es.set j (ow, lk)).length = n) := Lib.hid (by rw [List.length_set]; exact HLen.out)
  have HG1 := Lib.hid (good_set HGood.out j (x := (ow, lk)) HNo.out)
  have HAt : Hid (∀ k : Nat, j ≠ k → atE (es.set j (ow, lk)) k = atE es k) := Lib.hid (fun k h => atE_set_ne h)
  have HMe : Hid (atE (es.set j (ow, lk)) j = (ow, lk)) := Lib.hid (atE_set_self (by rw [HLen.out]; exact hj))
  have HGr : Hid (∀ k : Nat, k ≠ j / 4 → grpW (es.set j (ow, lk)) k = grpW es k) := Lib.hid (fun k h => grp_set_ne h)
  have HB3 : Hid (Ap w w3 p g p2 g2 w.heap.size (es.set j (ow, lk)) es j ow lk) := Lib.hid ⟨hT3, HB2.out.tc.grown hg3 (fun e => hpg (Option.some.inj e)) (fun e => hgg2 (Option.some.inj e)), HB2.out.k.grown hg3 (by omega), grown_below HB2.out.below hg3 (by omega)⟩
  clear hg3 hT3 kl k0 k1 k2
  generalize es.set j (ow, lk) = es1 at *
  go_wp2_with fail
  go_loopg [12] n (fun g12 s12 wr => ∃ k : Nat, k + g12 = n ∧ s12 = .int .i64 k ∧ Hid (Ap w wr p g p2 g2 w.heap.size es1 es j ow lk))
  case atStart => exact ⟨0, by omega, rfl, HB3⟩
  case round =>
    obtain ⟨k, hk, rfl, HR⟩ := hrel
    by_cases hkn : k < n
    · have ek : decide ((k : Int) < (n : Int)) = true := by simp; omega
      have hwk : (((ngr n : Nat) : Int) + (k : Int)).toNat = ngr n + k := by omega
      have hw1 : Hid ((wordsOf es1)[(((ngr n : Nat) : Int) + (k : Int)).toNat]?.getD 0 = entW (atE es1 k)) := by
        show _ = _
        have := words_ent (es := es1) (i := k) (by rw [HL1.out]; exact hkn)
        rw [HL1.out] at this
        rw [hwk, this]
        rfl
      have hw2 : Hid ((wordsOf es)[(((ngr n : Nat) : Int) + (k : Int)).toNat]?.getD 0 = entW (atE es k)) := by
        show _ = _
        have := words_ent (es := es) (i := k) (by rw [HLen.out]; exact hkn)
        rw [HLen.out] at this
        rw [hwk, this]
        rfl
      have hl1 : Hid (((ngr n : Nat) : Int) + (k : Int) < ((wordsOf es1).length : Int)) := Lib.hid (by rw [words_len, HL1.out]; omega)
      have hl2 : Hid (((ngr n : Nat) : Int) + (k : Int) < ((wordsOf es).length : Int)) := Lib.hid (by rw [words_len, HLen.out]; omega)
      clear hwk
      obtain ⟨ao, al, ha⟩ : ∃ ao al, atE es1 k = (ao, al) := ⟨_, _, rfl⟩
      obtain ⟨xo, xl, hx⟩ : ∃ xo xl, atE es k = (xo, xl) := ⟨_, _, rfl⟩
      have HA := Lib.hid ha
      have HX := Lib.hid hx
      clear ha hx
      go_wp2_with fail
      refine (get_yes p g es1 k _ HR.out.tb (by omega) (by rw [HL1.out]; omega)).mono ?_
      rintro e w4 ⟨rfl, hb4⟩
      rw [Int.toNat_natCast, HA.out]
      have HR4 := Lib.hid (HR.out.ext hb4)
      clear hb4
      go_wp2_with fail
      refine (get_yes p2 g2 es k _ (HR4.out.tc.ext (ext_alloc _ (Below.refl _ _))) (by omega) (by rw [HLen.out]; omega)).mono ?_
      rintro e w5 ⟨rfl, hb5⟩
      rw [Int.toNat_natCast, HX.out]
      have HR5 := Lib.hid (HR4.out.ext (ext_next hb5 (ext_alloc _ (Below.refl _ _))))
      have X5 := Lib.hid ((C2.made w4 ao al 57).ext hb5)
      clear hb5 HR HR4
      go_wp2_with fail
      refine (own_any n k _ h2 (by omega)).mono ?_
      rintro e w' ⟨rfl, hw⟩
      rw [hw]
      clear hw w'
      go_wp2_with fail
      refine (word_yes p g es1 (((ngr n : Nat) : Int) + (k : Int)) _ (HR5.out.tb.ext (ext_alloc _ (Below.refl _ _))) (by rw [HL1.out]; exact h2) HG1.out (by omega) hl1.out).mono ?_
      rintro e w6 ⟨rfl, hb6⟩
      rw [hw1.out, HA.out]
      have b6 := ext_next hb6 (ext_alloc _ (Below.refl w5.heap.size w5))
      have HR6 := Lib.hid (HR5.out.ext b6)
      have X6 := Lib.hid (X5.out.ext b6)
      have Y6 := Lib.hid ((C2.made w5 xo xl 57).ext hb6)
      clear hb6 b6 HR5 X5
      go_wp2_with fail
      refine (own_any n k _ h2 (by omega)).mono ?_
      rintro e w' ⟨rfl, hw⟩
      rw [hw]
      clear hw w'
      go_wp2_with fail
      refine (word_yes p2 g2 es (((ngr n : Nat) : Int) + (k : Int)) _ HR6.out.tc (by rw [HLen.out]; exact h2) HGood.out (by omega) hl2.out).mono ?_
      rintro e w7 ⟨rfl, hb7⟩
      rw [hw2.out, HX.out]
      have HR7 := Lib.hid (HR6.out.ext hb7)
      obtain ⟨m0, m1, m2⟩ := X6.out.ext hb7
      obtain ⟨n0, n1, n2⟩ := Y6.out.ext hb7
      obtain ⟨kl, k0, k1, k2⟩ := HR7.out.k
      generalize hea : entW (ao, al) = ea
      have HEA := Lib.hid hea
      clear hea
      clear hb7 HR6 X6 Y6
      by_cases hjk : j = k
      · have hq : (ao, al) = (ow, lk) := by rw [← HA.out, ← hjk]; exact HMe.out
        simp only [Prod.mk.injEq] at hq
        obtain ⟨rfl, rfl⟩ := hq
        have hjk2 : ((k : Int) == (j : Int)) = true := by simp; omega
        have hjk3 : ((k : Int) != (j : Int)) = false := by simp; omega
        have HJ := Lib.hid hjk
        clear hjk
        generalize entW (xo, xl) = ex
        go_wp2_with fail
        go_roundg (n - (k + 1))
        case measure => omega
        case rel => exact ⟨k + 1, by omega, by go_num, HR7⟩
      · have hq : (ao, al) = (xo, xl) := by rw [← HA.out, ← HX.out]; exact HAt.out k hjk
        simp only [Prod.mk.injEq] at hq
        obtain ⟨rfl, rfl⟩ := hq
        have hjk2 : ((k : Int) == (j : Int)) = false := by simp; omega
        have hjk3 : ((k : Int) != (j : Int)) = true := by simp; omega
        have HJ := Lib.hid hjk
        clear hjk
        rw [HEA.out]
        go_wp2_with fail
        go_roundg (n - (k + 1))
        case measure => omega
        case rel => exact ⟨k + 1, by omega, by go_num, HR7⟩
    · have ek : decide ((k : Int) < (n : Int)) = false := by simp; omega
      clear hk
      go_wp2_with fail
      go_loopg [21] (ngr n) (fun g21 s21 wz => ∃ k : Nat, k + g21 = ngr n ∧ s21 = .int .i64 k ∧ Hid (Ap w wz p g p2 g2 w.heap.size es1 es j ow lk))
      case atStart => exact ⟨0, by omega, rfl, HR⟩
      case round =>
        obtain ⟨q, hq, rfl, HZ⟩ := hrel
        have hng : ngr n ≤ 4 := by unfold ngr; omega
        go_wp2_with fail
        refine (own_any n 0 _ h2 (by omega)).mono ?_
        rintro e w' ⟨rfl, hw⟩
        rw [hw]
        clear hw w'
        by_cases hqn : q < ngr n
        · have eq : decide ((q : Int) < (ngr n : Int)) = true := by simp; omega
          have hv1 : Hid ((wordsOf es1)[((q : Int)).toNat]?.getD 0 = grpW es1 q) := by
            show _ = _
            rw [Int.toNat_natCast, words_grp (by rw [HL1.out]; exact hqn)]
            rfl
          have hv2 : Hid ((wordsOf es)[((q : Int)).toNat]?.getD 0 = grpW es q) := by
            show _ = _
            rw [Int.toNat_natCast, words_grp (by rw [HLen.out]; exact hqn)]
            rfl
          have hl1 : Hid ((q : Int) < ((wordsOf es1).length : Int)) := Lib.hid (by rw [words_len, HL1.out]; omega)
          have hl2 : Hid ((q : Int) < ((wordsOf es).length : Int)) := Lib.hid (by rw [words_len, HLen.out]; omega)
          go_wp2_with fail
          refine (word_yes p g es1 q _ HZ.out.tb (by rw [HL1.out]; exact h2) HG1.out (by omega) hl1.out).mono ?_
          rintro e w4 ⟨rfl, hb4⟩
          rw [hv1.out]
          have HZ4 := Lib.hid (HZ.out.ext hb4)
          clear hb4
          go_wp2_with fail
          refine (word_yes p2 g2 es q _ HZ4.out.tc (by rw [HLen.out]; exact h2) HGood.out (by omega) hl2.out).mono ?_
          rintro e w5 ⟨rfl, hb5⟩
          rw [hv2.out]
          have HZ5 := Lib.hid (HZ4.out.ext hb5)
          obtain ⟨kl, k0, k1, k2⟩ := HZ5.out.k
          clear hb5
          by_cases hqj : q = j / 4
          · have e1 : ((q : Int) != (j : Int) / 4) = false := by simp; omega
            have HQ := Lib.hid hqj
            clear hqj
            generalize grpW es1 q = gw1
            generalize grpW es q = gw
            cases hgw : (gw1 != gw)
            · go_wp2_with fail
              go_roundg (ngr n - (q + 1))
              case measure => omega
              case rel => exact ⟨q + 1, by omega, by go_num, HZ5⟩
            · go_wp2_with fail
              go_roundg (ngr n - (q + 1))
              case measure => omega
              case rel => exact ⟨q + 1, by omega, by go_num, HZ5⟩
          · rw [HGr.out q hqj]
            have HQ := Lib.hid hqj
            clear hqj
            generalize grpW es q = gw
            go_wp2_with fail
            go_roundg (ngr n - (q + 1))
            case measure => omega
            case rel => exact ⟨q + 1, by omega, by go_num, HZ5⟩
        · have eq : decide ((q : Int) < (ngr n : Int)) = false := by simp; omega
          clear hq
          go_wp2_with fail
          refine (awake08 _).mono ?_
          rintro e w4 ⟨rfl, hb4⟩
          have HZ4 := Lib.hid (HZ.out.ext hb4)
          clear hb4
          go_wp2_with fail
          go_ret
          exact ⟨rfl, HZ4.out.below⟩


theorem apart_walk (x : Int) (A : Option Addr) (cap : Nat) (ops : List Op8) (G ow : Int) (lk : Bool) (w : World) (hO : SlO w A ops) :
    Calls Try.prog 12 #[.int .i64 x, .slice A ops.length cap, .agg #[.int .i64 G, .int .i64 ow, .bool lk]] w fun e w' => e = .returned (.bool true) ∧ Below w.heap.size w w' := by
  by_cases h : x < 1 ∨ 16 < x ∨ 40 < ops.length
  · exact apart_out x A ops.length cap G ow lk w h
  · obtain ⟨n, rfl⟩ := Int.eq_ofNat_of_zero_le (a := x) (by omega)
    by_cases hyes : 0 ≤ G ∧ G < n ∧ ownB ow = true
    · obtain ⟨j, rfl⟩ := Int.eq_ofNat_of_zero_le hyes.1
      exact apart_yes n A cap ops j ow lk w hO (by omega) (by omega) (by omega) (by omega) hyes.2.2
    · exact apart_no n A cap ops G ow lk w hO (by omega) (by omega) (by omega) hyes

end Go.Proofs.Ytnablldaaajhkaa
