/- What this text holds: the walk of the law TableBack. No condition. -/
import Derived.Test.YtnablldaaajhkaaLaw08B
import Derived.Deep.RegionHeld3
namespace Go.Proofs.Ytnablldaaajhkaa
open Go.RowKit

set_option maxRecDepth 100000 in
set_option maxHeartbeats 4000000 in
theorem back_out (g : Int) (A : Option Addr) (n cap : Nat) (G ow : Int) (lk : Bool) (w : World) (h : g < 1 ∨ 16 < g ∨ 40 < n) :
    Calls Try.prog 7 #[.int .i64 g, .slice A n cap, .agg #[.int .i64 G, .int .i64 ow, .bool lk]] w fun e w' => e = .returned (.bool true) ∧ Below w.heap.size w w' := by
  by_cases h1 : g < 1
  · go_enter Try.func7, Try.ntmps7
    go_wp2_with fail
    refine (awake08 _).mono ?_
    rintro e w1 ⟨rfl, hb1⟩
    go_wp2_with fail
    go_ret
    exact ⟨rfl, (by repeat (with_reducible first | exact Below.refl _ _ | assumption | (refine ext_next (by assumption) ?_) | apply ext_alloc | apply ext_past | apply ext_drew | apply ext_drewN))⟩
  by_cases h2 : 16 < g
  · go_enter Try.func7, Try.ntmps7
    go_wp2_with fail
    refine (awake08 _).mono ?_
    rintro e w1 ⟨rfl, hb1⟩
    go_wp2_with fail
    go_ret
    exact ⟨rfl, (by repeat (with_reducible first | exact Below.refl _ _ | assumption | (refine ext_next (by assumption) ?_) | apply ext_alloc | apply ext_past | apply ext_drew | apply ext_drewN))⟩
  · have h3 : 40 < n := by omega
    clear h
    go_enter Try.func7, Try.ntmps7
    go_wp2_with fail
    refine (awake08 _).mono ?_
    rintro e w1 ⟨rfl, hb1⟩
    go_wp2_with fail
    go_ret
    exact ⟨rfl, (by repeat (with_reducible first | exact Below.refl _ _ | assumption | (refine ext_next (by assumption) ?_) | apply ext_alloc | apply ext_past | apply ext_drew | apply ext_drewN))⟩

set_option maxRecDepth 100000 in
set_option maxHeartbeats 8000000 in
theorem back_no (n : Nat) (A : Option Addr) (cap : Nat) (ops : List Op8) (G ow : Int) (lk : Bool) (w : World) (hO : SlO w A ops) (h1 : 1 ≤ n) (h2 : n ≤ 16) (hl : ops.length ≤ 40) (hno : ¬ (0 ≤ G ∧ G < n ∧ ownB ow = true)) :
    Calls Try.prog 7 #[.int .i64 n, .slice A ops.length cap, .agg #[.int .i64 G, .int .i64 ow, .bool lk]] w fun e w' => e = .returned (.bool true) ∧ Below w.heap.size w w' := by
  have f1 : decide ((n : Int) < 1) = false := by simp; omega
  have f2 : decide ((n : Int) > 16) = false := by simp; omega
  have f3 : decide ((ops.length : Int) > 40) = false := by simp; omega
  have HO := Lib.hid hO
  have HNo := Lib.hid hno
  clear hO hno
  go_enter Try.func7, Try.ntmps7
  go_wp2_with fail
  refine (made_any n A cap ops _ (HO.out.ext (ext_alloc _ (Below.refl _ _))) h1 h2 hl).mono ?_
  rintro e w1 ⟨p, g, b, rfl, hM⟩
  have HLen := Lib.hid (play8_len n ops)
  have HGood := Lib.hid (play8_good n ops)
  generalize play8 n ops = es at *
  have K1 := (C3.made w G ow lk 59).ext hM.below
  have B1 : Hid (Below w.heap.size w w1) := Lib.hid (ext_next hM.below (ext_alloc _ (Below.refl _ _)))
  have hgg : w.heap.size < g := by have := hM.ng; simp at this; omega
  have HT1 := Lib.hid hM.tb
  have HK1 := Lib.hid K1
  clear hM K1
  go_wp2_with fail
  refine (words_any p g es _ HT1.out (by rw [HLen.out]; exact h2) HGood.out).mono ?_
  rintro e w2 ⟨A1, cap1, rfl, hs2, hf2, hb2⟩
  have HB2 : Hid (Bk w w2 p g w.heap.size es A1 (wordsOf es) G ow lk) := Lib.hid ⟨HT1.out.ext hb2, hs2, fun a ha => by have h3 := hf2 a ha; have h4 := HT1.out.gl; omega, HK1.out.ext hb2, by omega, by omega, ext_next hb2 B1.out⟩
  clear hb2 hs2 hf2 HT1 HK1 B1
  obtain ⟨kl, k0, k1, k2⟩ := HB2.out.k
  have hL20 : (wordsOf es).length < 1000 := by rw [words_len, HLen.out]; unfold ngr; omega
  have HWl := Lib.hid hL20
  clear hL20
  by_cases hi : 0 ≤ G ∧ G < n
  · go_wp2_with fail
    refine (get_yes p g es G _ HB2.out.tb hi.1 (by rw [HLen.out]; exact hi.2)).mono ?_
    rintro e w3 ⟨rfl, hb3⟩
    have HB3 := Lib.hid (HB2.out.ext hb3)
    clear hb3 kl k0 k1 k2 hi
    generalize atE es G.toNat = x
    obtain ⟨kl, k0, k1, k2⟩ := HB3.out.k
    go_wp2_with fail
    refine (set_no p g es G ow lk _ (HB3.out.tb.ext (ext_alloc _ (Below.refl _ _))) (by rw [HLen.out]; exact HNo.out)).mono ?_
    rintro e w4 ⟨rfl, hb4⟩
    have HB4 := Lib.hid (HB3.out.ext (ext_next hb4 (ext_alloc _ (Below.refl _ _))))
    clear hb4 kl k0 k1 k2
    go_wp2_with fail
    refine (words_any p g es _ HB4.out.tb (by rw [HLen.out]; exact h2) HGood.out).mono ?_
    rintro e w5 ⟨A2, cap2, rfl, hs5, _, hb5⟩
    have HB5 := Lib.hid (HB4.out.ext hb5)
    have HS5 := Lib.hid hs5
    clear hb5 hs5
    go_wp2_with fail
    refine (ints_any A2 A1 (wordsOf es) (wordsOf es) (wordsOf es).length _ _ _ HS5.out HB5.out.sl rfl rfl HWl.out).mono ?_
    rintro e w6 ⟨rfl, hb6⟩
    have HB6 := Lib.hid (HB5.out.ext hb6)
    rw [show decide (wordsOf es = wordsOf es) = true from by simp]
    clear hb6
    go_wp2_with fail
    refine (awake08 _).mono ?_
    rintro e w7 ⟨rfl, hb7⟩
    have HB7 := Lib.hid (HB6.out.ext hb7)
    clear hb7
    go_wp2_with fail
    go_ret
    exact ⟨rfl, HB7.out.below⟩
  · go_wp2_with fail
    refine (get_no p g es G _ HB2.out.tb (by rw [HLen.out]; omega)).mono ?_
    rintro e w3 ⟨rfl, hb3⟩
    have HB3 := Lib.hid (HB2.out.ext hb3)
    clear hb3 kl k0 k1 k2 hi
    skip
    obtain ⟨kl, k0, k1, k2⟩ := HB3.out.k
    go_wp2_with fail
    refine (set_no p g es G ow lk _ (HB3.out.tb.ext (ext_alloc _ (Below.refl _ _))) (by rw [HLen.out]; exact HNo.out)).mono ?_
    rintro e w4 ⟨rfl, hb4⟩
    have HB4 := Lib.hid (HB3.out.ext (ext_next hb4 (ext_alloc _ (Below.refl _ _))))
    clear hb4 kl k0 k1 k2
    go_wp2_with fail
    refine (words_any p g es _ HB4.out.tb (by rw [HLen.out]; exact h2) HGood.out).mono ?_
    rintro e w5 ⟨A2, cap2, rfl, hs5, _, hb5⟩
    have HB5 := Lib.hid (HB4.out.ext hb5)
    have HS5 := Lib.hid hs5
    clear hb5 hs5
    go_wp2_with fail
    refine (ints_any A2 A1 (wordsOf es) (wordsOf es) (wordsOf es).length _ _ _ HS5.out HB5.out.sl rfl rfl HWl.out).mono ?_
    rintro e w6 ⟨rfl, hb6⟩
    have HB6 := Lib.hid (HB5.out.ext hb6)
    rw [show decide (wordsOf es = wordsOf es) = true from by simp]
    clear hb6
    go_wp2_with fail
    refine (awake08 _).mono ?_
    rintro e w7 ⟨rfl, hb7⟩
    have HB7 := Lib.hid (HB6.out.ext hb7)
    clear hb7
    go_wp2_with fail
    go_ret
    exact ⟨rfl, HB7.out.below⟩

set_option maxRecDepth 100000 in
set_option maxHeartbeats 8000000 in
theorem back_yes (n : Nat) (A : Option Addr) (cap : Nat) (ops : List Op8) (j : Nat) (ow : Int) (lk : Bool) (w : World) (hO : SlO w A ops) (h1 : 1 ≤ n) (h2 : n ≤ 16) (hl : ops.length ≤ 40) (hj : j < n) (how : ownB ow = true) :
    Calls Try.prog 7 #[.int .i64 n, .slice A ops.length cap, .agg #[.int .i64 j, .int .i64 ow, .bool lk]] w fun e w' => e = .returned (.bool true) ∧ Below w.heap.size w w' := by
  have f1 : decide ((n : Int) < 1) = false := by simp; omega
  have f2 : decide ((n : Int) > 16) = false := by simp; omega
  have f3 : decide ((ops.length : Int) > 40) = false := by simp; omega
  have HO := Lib.hid hO
  have HOw := Lib.hid how
  clear hO how
  go_enter Try.func7, Try.ntmps7
  go_wp2_with fail
  refine (made_any n A cap ops _ (HO.out.ext (ext_alloc _ (Below.refl _ _))) h1 h2 hl).mono ?_
  rintro e w1 ⟨p, g, b, rfl, hM⟩
  have HLen := Lib.hid (play8_len n ops)
  have HGood := Lib.hid (play8_good n ops)
  generalize play8 n ops = es at *
  have K1 := (C3.made w j ow lk 59).ext hM.below
  have B1 : Hid (Below w.heap.size w w1) := Lib.hid (ext_next hM.below (ext_alloc _ (Below.refl _ _)))
  have hgg : w.heap.size < g := by have := hM.ng; simp at this; omega
  have HT1 := Lib.hid hM.tb
  have HK1 := Lib.hid K1
  clear hM K1
  go_wp2_with fail
  refine (words_any p g es _ HT1.out (by rw [HLen.out]; exact h2) HGood.out).mono ?_
  rintro e w2 ⟨A1, cap1, rfl, hs2, hf2, hb2⟩
  have HB2 : Hid (Bk w w2 p g w.heap.size es A1 (wordsOf es) j ow lk) := Lib.hid ⟨HT1.out.ext hb2, hs2, fun a ha => by have h3 := hf2 a ha; have h4 := HT1.out.gl; omega, HK1.out.ext hb2, by omega, by omega, ext_next hb2 B1.out⟩
  clear hb2 hs2 hf2 HT1 HK1 B1
  obtain ⟨kl, k0, k1, k2⟩ := HB2.out.k
  have hL20 : (wordsOf es).length < 1000 := by rw [words_len, HLen.out]; unfold ngr; omega
  have HWl := Lib.hid hL20
  clear hL20
  go_wp2_with fail
  refine (get_yes p g es j _ HB2.out.tb (by omega) (by rw [HLen.out]; omega)).mono ?_
  rintro e w3 ⟨rfl, hb3⟩
  rw [Int.toNat_natCast]
  have HB3 := Lib.hid (HB2.out.ext hb3)
  clear hb3 kl k0 k1 k2
  obtain ⟨kl, k0, k1, k2⟩ := HB3.out.k
  have hx : Hid (ownB (atE es j).1 = true) := Lib.hid (by have := HGood.out j (by rw [HLen.out]; exact hj); simpa [ownB] using this)
  have HSame := Lib.hid (set_same (es := es) (j := j) (by rw [HLen.out]; exact hj))
  have HEq := Lib.hid (words_set_eq (x := (ow, lk)) HGood.out (by rw [HLen.out]; exact hj) HOw.out)
  have HGood1 := Lib.hid (good_set HGood.out j (x := (ow, lk)) HOw.out)
  have HLen1 : Hid ((es.set j (ow, lk)).length = n) := Lib.hid (by rw [List.length_set]; exact HLen.out)
  have HBack : Hid ((es.set j (ow, lk)).set j (atE es j) = es) := Lib.hid (by rw [List.set_set]; exact HSame.out)
  generalize hxx : atE es j = x at *
  generalize hes1 : es.set j (ow, lk) = es1 at *
  have HE1 := Lib.hid hes1
  clear hes1
  obtain ⟨xo, xl⟩ := x
  go_wp2_with fail
  refine (set_yes p g es j ow lk _ (HB3.out.tb.ext (ext_alloc _ (Below.refl _ _))) (by omega) (by rw [HLen.out]; omega) HOw.out).mono ?_
  rintro e w4 ⟨rfl, hg4, hT4⟩
  rw [Int.toNat_natCast, HE1.out] at hT4
  have HB4 := Lib.hid ((HB3.out.ext (ext_alloc _ (Below.refl _ _))).grown hg4 hT4)
  have hng3 : w3.heap.size ≠ g := by have := HB3.out.tb.gl; omega
  have X4 := Lib.hid ((C2.made w3 xo xl 57).grown hg4 hng3)
  have HLw : Hid ((((wordsOf es1).length : Int) == ((wordsOf es).length : Int)) = true) := Lib.hid (by rw [words_len, words_len, HLen1.out, HLen.out]; simp)
  have HL1 : Hid ((wordsOf es1).length = (wordsOf es).length) := Lib.hid (by rw [words_len, words_len, HLen1.out, HLen.out])
  clear hg4 hT4 kl k0 k1 k2 hxx hng3
  go_wp2_with fail
  have hW := words_any p g es1 _ HB4.out.tb (by rw [HLen1.out]; exact h2) HGood1.out
  rw [HL1.out] at hW
  refine hW.mono ?_
  clear hW
  rintro e w5 ⟨A3, cap3, rfl, hs5, _, hb5⟩
  have HB5 := Lib.hid (HB4.out.ext hb5)
  have X5 := Lib.hid (X4.out.ext hb5)
  have HS5 := Lib.hid hs5
  clear hb5 hs5 HB4 X4
  obtain ⟨kl, k0, k1, k2⟩ := HB5.out.k
  obtain ⟨xl0, x0, x1⟩ := X5.out
  have hcase : (xo = ow ∧ xl = lk) ∨ ((xo == ow) = false) ∨ (xo = ow ∧ (xl == lk) = false) := by
    by_cases ha : xo = ow
    · by_cases hb : xl = lk
      · exact .inl ⟨ha, hb⟩
      · exact .inr (.inr ⟨ha, by simpa using hb⟩)
    · exact .inr (.inl (by simpa using ha))
  have HQ : Hid (∀ b, ((xo, xl) == (ow, lk)) = b → decide (wordsOf es1 = wordsOf es) = b) := Lib.hid (fun b h => HEq.out.trans h)
  rcases hcase with ⟨h3, h4⟩ | h3 | ⟨h3, h4⟩
  · obtain rfl := h3; obtain rfl := h4
    have HD : Hid (decide (wordsOf es1 = wordsOf es) = true) := Lib.hid (HQ.out _ (by simp))
    go_wp2_with fail
    have hng3 : w3.heap.size ≠ g := by have := HB3.out.tb.gl; omega
    have QQ := And.intro k0 (And.intro k1 (And.intro k2 (And.intro x0 x1)))
    go_region_held3 (fun w' => w'.cell? ⟨w.heap.size, 0, none⟩ = some (.int .i64 (j : Int)) ∧ w'.cell? ⟨w.heap.size, 1, none⟩ = some (.int .i64 xo) ∧ w'.cell? ⟨w.heap.size, 2, none⟩ = some (.bool xl) ∧ w'.cell? ⟨w3.heap.size, 0, none⟩ = some (.int .i64 xo) ∧ w'.cell? ⟨w3.heap.size, 1, none⟩ = some (.bool xl))
      (exact QQ)
      (first
        | (go_at_call 30; refine (ints_any A3 A1 (wordsOf es1) (wordsOf es) (wordsOf es).length _ _ _ (by first | exact HS5.out | exact HS5.out.drew) (by first | exact HB5.out.sl | exact HB5.out.sl.drew) HL1.out rfl HWl.out).mono ?_; rintro e w6 ⟨rfl, hb6⟩; rw [HD.out]; have HB6 := Lib.hid (HB5.out.ext (below_undrew hb6)); have X6 := Lib.hid (X5.out.ext (below_undrew hb6)); have QQ := And.intro HB6.out.k.c0 (And.intro HB6.out.k.c1 (And.intro HB6.out.k.c2 (And.intro X6.out.c0 X6.out.c1))); clear hb6)
        | (go_at_call 29; refine (set_yes p g es1 j xo xl _ HB6.out.tb (by omega) (by rw [HLen1.out]; omega) hx.out).mono ?_; rintro e w7 ⟨rfl, hg7, hT7⟩; rw [Int.toNat_natCast, HBack.out] at hT7; have HB7 := Lib.hid (HB6.out.grown hg7 hT7); have X7 := Lib.hid (X6.out.grown hg7 hng3); have QQ := And.intro HB7.out.k.c0 (And.intro HB7.out.k.c1 (And.intro HB7.out.k.c2 (And.intro X7.out.c0 X7.out.c1))); clear hg7 hT7))
    clear QQ k0 k1 k2 x0 x1
    go_wp2_with fail
    refine (words_any p g es _ HB7.out.tb (by rw [HLen.out]; exact h2) HGood.out).mono ?_
    rintro e w8 ⟨A6, cap6, rfl, hs8, _, hb8⟩
    have HB8 := Lib.hid (HB7.out.ext hb8)
    have HS8 := Lib.hid hs8
    clear hb8 hs8
    go_wp2_with fail
    refine (ints_any A6 A1 (wordsOf es) (wordsOf es) (wordsOf es).length _ _ _ HS8.out HB8.out.sl rfl rfl HWl.out).mono ?_
    rintro e w9 ⟨rfl, hb9⟩
    have HB9 := Lib.hid (HB8.out.ext hb9)
    rw [show decide (wordsOf es = wordsOf es) = true from by simp]
    clear hb9
    go_wp2_with fail
    refine (awake08 _).mono ?_
    rintro e w10 ⟨rfl, hb10⟩
    have HB10 := Lib.hid (HB9.out.ext hb10)
    clear hb10
    go_wp2_with fail
    go_ret
    exact ⟨rfl, HB10.out.below⟩
  · skip
    have HD : Hid (decide (wordsOf es1 = wordsOf es) = false) := Lib.hid (HQ.out _ (by simp at h3; simp [h3]))
    go_wp2_with fail
    have hng3 : w3.heap.size ≠ g := by have := HB3.out.tb.gl; omega
    have QQ := And.intro k0 (And.intro k1 (And.intro k2 (And.intro x0 x1)))
    go_region_held3 (fun w' => w'.cell? ⟨w.heap.size, 0, none⟩ = some (.int .i64 (j : Int)) ∧ w'.cell? ⟨w.heap.size, 1, none⟩ = some (.int .i64 ow) ∧ w'.cell? ⟨w.heap.size, 2, none⟩ = some (.bool lk) ∧ w'.cell? ⟨w3.heap.size, 0, none⟩ = some (.int .i64 xo) ∧ w'.cell? ⟨w3.heap.size, 1, none⟩ = some (.bool xl))
      (exact QQ)
      (first
        | (go_at_call 30; refine (ints_any A3 A1 (wordsOf es1) (wordsOf es) (wordsOf es).length _ _ _ (by first | exact HS5.out | exact HS5.out.drew) (by first | exact HB5.out.sl | exact HB5.out.sl.drew) HL1.out rfl HWl.out).mono ?_; rintro e w6 ⟨rfl, hb6⟩; rw [HD.out]; have HB6 := Lib.hid (HB5.out.ext (below_undrew hb6)); have X6 := Lib.hid (X5.out.ext (below_undrew hb6)); have QQ := And.intro HB6.out.k.c0 (And.intro HB6.out.k.c1 (And.intro HB6.out.k.c2 (And.intro X6.out.c0 X6.out.c1))); clear hb6)
        | (go_at_call 29; refine (set_yes p g es1 j xo xl _ HB6.out.tb (by omega) (by rw [HLen1.out]; omega) hx.out).mono ?_; rintro e w7 ⟨rfl, hg7, hT7⟩; rw [Int.toNat_natCast, HBack.out] at hT7; have HB7 := Lib.hid (HB6.out.grown hg7 hT7); have X7 := Lib.hid (X6.out.grown hg7 hng3); have QQ := And.intro HB7.out.k.c0 (And.intro HB7.out.k.c1 (And.intro HB7.out.k.c2 (And.intro X7.out.c0 X7.out.c1))); clear hg7 hT7))
    clear QQ k0 k1 k2 x0 x1
    go_wp2_with fail
    refine (words_any p g es _ HB7.out.tb (by rw [HLen.out]; exact h2) HGood.out).mono ?_
    rintro e w8 ⟨A6, cap6, rfl, hs8, _, hb8⟩
    have HB8 := Lib.hid (HB7.out.ext hb8)
    have HS8 := Lib.hid hs8
    clear hb8 hs8
    go_wp2_with fail
    refine (ints_any A6 A1 (wordsOf es) (wordsOf es) (wordsOf es).length _ _ _ HS8.out HB8.out.sl rfl rfl HWl.out).mono ?_
    rintro e w9 ⟨rfl, hb9⟩
    have HB9 := Lib.hid (HB8.out.ext hb9)
    rw [show decide (wordsOf es = wordsOf es) = true from by simp]
    clear hb9
    go_wp2_with fail
    refine (awake08 _).mono ?_
    rintro e w10 ⟨rfl, hb10⟩
    have HB10 := Lib.hid (HB9.out.ext hb10)
    clear hb10
    go_wp2_with fail
    go_ret
    exact ⟨rfl, HB10.out.below⟩
  · obtain rfl := h3
    have HD : Hid (decide (wordsOf es1 = wordsOf es) = false) := Lib.hid (HQ.out _ (by simp at h4; simp [h4]))
    go_wp2_with fail
    have hng3 : w3.heap.size ≠ g := by have := HB3.out.tb.gl; omega
    have QQ := And.intro k0 (And.intro k1 (And.intro k2 (And.intro x0 x1)))
    go_region_held3 (fun w' => w'.cell? ⟨w.heap.size, 0, none⟩ = some (.int .i64 (j : Int)) ∧ w'.cell? ⟨w.heap.size, 1, none⟩ = some (.int .i64 xo) ∧ w'.cell? ⟨w.heap.size, 2, none⟩ = some (.bool lk) ∧ w'.cell? ⟨w3.heap.size, 0, none⟩ = some (.int .i64 xo) ∧ w'.cell? ⟨w3.heap.size, 1, none⟩ = some (.bool xl))
      (exact QQ)
      (first
        | (go_at_call 30; refine (ints_any A3 A1 (wordsOf es1) (wordsOf es) (wordsOf es).length _ _ _ (by first | exact HS5.out | exact HS5.out.drew) (by first | exact HB5.out.sl | exact HB5.out.sl.drew) HL1.out rfl HWl.out).mono ?_; rintro e w6 ⟨rfl, hb6⟩; rw [HD.out]; have HB6 := Lib.hid (HB5.out.ext (below_undrew hb6)); have X6 := Lib.hid (X5.out.ext (below_undrew hb6)); have QQ := And.intro HB6.out.k.c0 (And.intro HB6.out.k.c1 (And.intro HB6.out.k.c2 (And.intro X6.out.c0 X6.out.c1))); clear hb6)
        | (go_at_call 29; refine (set_yes p g es1 j xo xl _ HB6.out.tb (by omega) (by rw [HLen1.out]; omega) hx.out).mono ?_; rintro e w7 ⟨rfl, hg7, hT7⟩; rw [Int.toNat_natCast, HBack.out] at hT7; have HB7 := Lib.hid (HB6.out.grown hg7 hT7); have X7 := Lib.hid (X6.out.grown hg7 hng3); have QQ := And.intro HB7.out.k.c0 (And.intro HB7.out.k.c1 (And.intro HB7.out.k.c2 (And.intro X7.out.c0 X7.out.c1))); clear hg7 hT7))
    clear QQ k0 k1 k2 x0 x1
    go_wp2_with fail
    refine (words_any p g es _ HB7.out.tb (by rw [HLen.out]; exact h2) HGood.out).mono ?_
    rintro e w8 ⟨A6, cap6, rfl, hs8, _, hb8⟩
    have HB8 := Lib.hid (HB7.out.ext hb8)
    have HS8 := Lib.hid hs8
    clear hb8 hs8
    go_wp2_with fail
    refine (ints_any A6 A1 (wordsOf es) (wordsOf es) (wordsOf es).length _ _ _ HS8.out HB8.out.sl rfl rfl HWl.out).mono ?_
    rintro e w9 ⟨rfl, hb9⟩
    have HB9 := Lib.hid (HB8.out.ext hb9)
    rw [show decide (wordsOf es = wordsOf es) = true from by simp]
    clear hb9
    go_wp2_with fail
    refine (awake08 _).mono ?_
    rintro e w10 ⟨rfl, hb10⟩
    have HB10 := Lib.hid (HB9.out.ext hb10)
    clear hb10
    go_wp2_with fail
    go_ret
    exact ⟨rfl, HB10.out.below⟩

theorem back_walk (x : Int) (A : Option Addr) (cap : Nat) (ops : List Op8) (G ow : Int) (lk : Bool) (w : World) (hO : SlO w A ops) :
    Calls Try.prog 7 #[.int .i64 x, .slice A ops.length cap, .agg #[.int .i64 G, .int .i64 ow, .bool lk]] w fun e w' => e = .returned (.bool true) ∧ Below w.heap.size w w' := by
  by_cases h : x < 1 ∨ 16 < x ∨ 40 < ops.length
  · exact back_out x A ops.length cap G ow lk w h
  · obtain ⟨n, rfl⟩ := Int.eq_ofNat_of_zero_le (a := x) (by omega)
    by_cases hyes : 0 ≤ G ∧ G < n ∧ ownB ow = true
    · obtain ⟨j, rfl⟩ := Int.eq_ofNat_of_zero_le hyes.1
      exact back_yes n A cap ops j ow lk w hO (by omega) (by omega) (by omega) (by omega) hyes.2.2
    · exact back_no n A cap ops G ow lk w hO (by omega) (by omega) (by omega) hyes

end Go.Proofs.Ytnablldaaajhkaa
