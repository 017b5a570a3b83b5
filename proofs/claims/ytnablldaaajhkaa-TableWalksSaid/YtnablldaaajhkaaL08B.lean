/- What this text holds: the walk of the law TableWalks. No condition. -/
import Derived.Test.YtnablldaaajhkaaLaw08
namespace Go.Proofs.Ytnablldaaajhkaa
open Go.RowKit

theorem grp_all {es : List En} {k : Nat} (hk : k < es.length) (h : grpOk es (k / 4) = true) : atE es k = ((atE es (4 * (k / 4))).1, false) := by
  unfold grpOk at h
  rw [List.all_eq_true] at h
  have := h (atE es k) (by
    rw [← atE_get hk]
    exact List.mem_iff_getElem.2 ⟨k % 4, by simp; omega, by simp; congr 1; omega⟩)
  simpa using this

set_option maxRecDepth 100000 in
set_option maxHeartbeats 4000000 in
theorem walks_out (g : Int) (A : Option Addr) (n cap : Nat) (w : World) (h : g < 1 ∨ 16 < g ∨ 40 < n) :
    Calls Try.prog 9 #[.int .i64 g, .slice A n cap] w fun e w' => e = .returned (.bool true) ∧ Below w.heap.size w w' := by
  by_cases h1 : g < 1
  · go_enter Try.func9, Try.ntmps9
    go_wp2_with fail
    refine (awake08 _).mono ?_
    rintro e w1 ⟨rfl, hb1⟩
    go_wp2_with fail
    go_ret
    exact ⟨rfl, hb1⟩
  by_cases h2 : 16 < g
  · go_enter Try.func9, Try.ntmps9
    go_wp2_with fail
    refine (awake08 _).mono ?_
    rintro e w1 ⟨rfl, hb1⟩
    go_wp2_with fail
    go_ret
    exact ⟨rfl, hb1⟩
  · have h3 : 40 < n := by omega
    clear h
    go_enter Try.func9, Try.ntmps9
    go_wp2_with fail
    refine (awake08 _).mono ?_
    rintro e w1 ⟨rfl, hb1⟩
    go_wp2_with fail
    go_ret
    exact ⟨rfl, hb1⟩

set_option maxRecDepth 100000 in
set_option maxHeartbeats 8000000 in
theorem walks_in (n : Nat) (A : Option Addr) (cap : Nat) (ops : List Op8) (w : World) (hO : SlO w A ops) (h1 : 1 ≤ n) (h2 : n ≤ 16) (hl : ops.length ≤ 40) :
    Calls Try.prog 9 #[.int .i64 n, .slice A ops.length cap] w fun e w' => e = .returned (.bool true) ∧ Below w.heap.size w w' := by
  have f1 : decide ((n : Int) < 1) = false := by simp; omega
  have f2 : decide ((n : Int) > 16) = false := by simp; omega
  have f3 : decide ((ops.length : Int) > 40) = false := by simp; omega
  have HO := Lib.hid hO
  clear hO
  go_enter Try.func9, Try.ntmps9
  go_wp2_with fail
  refine (made_any n A cap ops _ HO.out h1 h2 hl).mono ?_
  rintro e w1 ⟨p, g, b, rfl, hM⟩
  have HLen := Lib.hid (play8_len n ops)
  have HGood := Lib.hid (play8_good n ops)
  generalize play8 n ops = es at *
  have HM := Lib.hid hM
  clear hM
  go_wp2_with fail
  go_loopg [8] n (fun gk s8 wr => ∃ k : Nat, k + gk = n ∧ s8 = .int .i64 k ∧ Hid (Made w wr p g b es))
  case atStart => exact ⟨0, by omega, rfl, HM⟩
  case round =>
    obtain ⟨k, hk, rfl, HR⟩ := hrel
    by_cases hkn : k < n
    · obtain ⟨g1, rfl⟩ : ∃ g1, gk = g1 + 1 := ⟨gk - 1, by omega⟩
      have ek : decide ((k : Int) < (n : Int)) = true := by simp; omega
      go_wp2_with fail
      refine (get_yes p g es k _ HR.out.tb (by omega) (by rw [HLen.out]; omega)).mono ?_
      rintro e w2 ⟨rfl, hb2⟩
      rw [Int.toNat_natCast]
      have HR2 := Lib.hid (HR.out.ext hb2)
      obtain ⟨o0, o4⟩ := HGood.out k (by rw [HLen.out]; exact hkn)
      clear hb2
      generalize hx : atE es k = x at *
      obtain ⟨ow, lk⟩ := x
      go_wp2_with fail
      refine (first_ok k _ (by omega) (by omega)).mono ?_
      rintro e w' ⟨rfl, hw⟩
      rw [hw]
      clear hw
      go_wp2_with fail
      have hkg : k / 4 < ngr es.length := by rw [HLen.out]; unfold ngr; omega
      have hkt : ((k : Int) / 4).toNat = k / 4 := by omega
      have hng : ngr es.length ≤ 4 := by rw [HLen.out]; unfold ngr; omega
      have hwl := words_len es
      have V1 : Hid ((wordsOf es)[((k : Int) / 4).toNat]?.getD 0 = grpW es (k / 4)) := by
        show _ = _
        rw [hkt, words_grp hkg]
        rfl
      have V2 : Hid ((wordsOf es)[(((n : Int) + 3) / 4 + k).toNat]?.getD 0 = entW (ow, lk)) := by
        show _ = _
        have e1 : (((n : Int) + 3) / 4 + k).toNat = ngr es.length + k := by rw [HLen.out]; unfold ngr; omega
        rw [e1, words_ent (by rw [HLen.out]; exact hkn), hx]
        rfl
      have L1 : Hid ((k : Int) / 4 < (wordsOf es).length) := Lib.hid (by rw [hwl]; omega)
      have L2 : Hid (((n : Int) + 3) / 4 + k < (wordsOf es).length) := Lib.hid (by rw [hwl, HLen.out]; unfold ngr; omega)
      have hHB : w2.heap.size < (w2.alloc (.cells #[.int .i64 ow, .bool lk] 57)).heap.size := by simp
      have G1 : Hid (grpOk es (k / 4) = true → lk = false ∧ (atE es (4 * (k / 4))).1 = ow) := Lib.hid (fun h => by
        have := grp_all (by rw [HLen.out]; exact hkn) h
        rw [hx] at this
        exact ⟨congrArg Prod.snd this, (congrArg Prod.fst this).symm⟩)
      have G2 : Hid (grpOk es (k / 4) = false → grpW es (k / 4) = 4 * (((n : Int) + 3) / 4 + (k : Int) / 4 * 4) + 1) := Lib.hid (fun h => by
        unfold grpW
        rw [h, HLen.out]
        simp only [Bool.false_eq_true, if_false]
        unfold ngr
        omega)
      have G3 : Hid (grpOk es (k / 4) = true → grpW es (k / 4) = 4 * (atE es (4 * (k / 4))).1) := Lib.hid (fun h => by unfold grpW; rw [h]; simp)
      clear hx hwl hkt
      refine wp_loop_rounds 3 ?_
      rw [rounds_succ]
      cases hp : grpOk es (k / 4)
      · have V3 := Lib.hid (G2.out hp)
        clear hp
        go_wp2_with fail
        refine (word_yes p g es ((k : Int) / 4) _ (HR2.out.tb.ext (ext_alloc _ (Below.refl _ _))) (by rw [HLen.out]; exact h2) HGood.out (by omega) L1.out).mono ?_
        rintro e w3 ⟨rfl, hb3⟩
        rw [V1.out, V3.out]
        have HR3 := Lib.hid (HR2.out.ext (ext_next hb3 (ext_alloc _ (Below.refl _ _))))
        have c0 : w3.cell? ⟨w2.heap.size, 0, none⟩ = some (.int .i64 ow) := (hb3.cell (p := ⟨w2.heap.size, 0, none⟩) hHB).trans (by simp [World.cell?_alloc_at])
        have c1 : w3.cell? ⟨w2.heap.size, 1, none⟩ = some (.bool lk) := (hb3.cell (p := ⟨w2.heap.size, 1, none⟩) hHB).trans (by simp [World.cell?_alloc_at])
        have s3 : w2.heap.size < w3.heap.size := Nat.lt_of_lt_of_le hHB hb3.size
        clear hb3
        go_wp2_with fail
        refine (next_more n k ((k : Int) / 4) _ _ (by omega) (by omega) (by omega) (by omega) rfl rfl).mono ?_
        rintro e w4 ⟨rfl, hb4⟩
        have HR4 := Lib.hid (HR3.out.ext hb4)
        have c0 := (hb4.cell s3).trans c0
        have c1 := (hb4.cell s3).trans c1
        have s4 : w2.heap.size < w4.heap.size := Nat.lt_of_lt_of_le s3 hb4.size
        clear hb4
        go_wp2_with fail
        rw [rounds_succ]
        go_wp2_with fail
        refine (word_yes p g es (((n : Int) + 3) / 4 + k) _ (HR4.out.tb.ext (ext_alloc _ (Below.refl _ _))) (by rw [HLen.out]; exact h2) HGood.out (by omega) L2.out).mono ?_
        rintro e w5 ⟨rfl, hb5⟩
        rw [V2.out]
        have b5 : Below w4.heap.size w4 w5 := ext_next hb5 (ext_alloc _ (Below.refl _ _))
        have HR5 := Lib.hid (HR4.out.ext b5)
        have c0 := (b5.cell s4).trans c0
        have c1 := (b5.cell s4).trans c1
        have s5 : w2.heap.size < w5.heap.size := Nat.lt_of_lt_of_le s4 b5.size
        clear hb5 b5
        go_wp2_with fail
        refine (next_own n k (((n : Int) + 3) / 4 + k) _ ow lk _ (by omega) (by omega) (by omega) (by omega) rfl rfl o0 o4).mono ?_
        rintro e w6 ⟨rfl, hb6⟩
        have HR6 := Lib.hid (HR5.out.ext hb6)
        have c0 := (hb6.cell s5).trans c0
        have c1 := (hb6.cell s5).trans c1
        have s6 : w2.heap.size < w6.heap.size := Nat.lt_of_lt_of_le s5 hb6.size
        clear hb6
        go_wp2_with fail
        rw [rounds_succ]
        go_wp2_with fail
        go_roundg g1
        case measure => omega
        case rel => exact ⟨k + 1, by omega, by go_num, Lib.hid (HR6.out.ext (ext_alloc _ (Below.refl _ _)))⟩
      · obtain ⟨rfl, hq⟩ := G1.out hp
        have V3 : Hid (grpW es (k / 4) = 4 * ow) := Lib.hid (by rw [G3.out hp, hq])
        clear hp hq
        go_wp2_with fail
        refine (word_yes p g es ((k : Int) / 4) _ (HR2.out.tb.ext (ext_alloc _ (Below.refl _ _))) (by rw [HLen.out]; exact h2) HGood.out (by omega) L1.out).mono ?_
        rintro e w3 ⟨rfl, hb3⟩
        rw [V1.out, V3.out]
        have HR3 := Lib.hid (HR2.out.ext (ext_next hb3 (ext_alloc _ (Below.refl _ _))))
        have c0 : w3.cell? ⟨w2.heap.size, 0, none⟩ = some (.int .i64 ow) := (hb3.cell (p := ⟨w2.heap.size, 0, none⟩) hHB).trans (by simp [World.cell?_alloc_at])
        have c1 : w3.cell? ⟨w2.heap.size, 1, none⟩ = some (.bool false) := (hb3.cell (p := ⟨w2.heap.size, 1, none⟩) hHB).trans (by simp [World.cell?_alloc_at])
        have s3 : w2.heap.size < w3.heap.size := Nat.lt_of_lt_of_le hHB hb3.size
        clear hb3
        go_wp2_with fail
        refine (next_plain n k ((k : Int) / 4) _ ow _ (by omega) (by omega) (by omega) (by omega) rfl rfl o0 o4).mono ?_
        rintro e w4 ⟨rfl, hb4⟩
        have HR4 := Lib.hid (HR3.out.ext hb4)
        have c0 := (hb4.cell s3).trans c0
        have c1 := (hb4.cell s3).trans c1
        have s4 : w2.heap.size < w4.heap.size := Nat.lt_of_lt_of_le s3 hb4.size
        clear hb4
        go_wp2_with fail
        rw [rounds_succ]
        go_wp2_with fail
        go_roundg g1
        case measure => omega
        case rel => exact ⟨k + 1, by omega, by go_num, Lib.hid (HR4.out.ext (ext_alloc _ (Below.refl _ _)))⟩
    · have ek : decide ((k : Int) < (n : Int)) = false := by simp; omega
      clear hk
      go_wp2_with fail
      refine (awake08 _).mono ?_
      rintro e w2 ⟨rfl, hb2⟩
      have HB : Hid (Below w.heap.size w w2) := Lib.hid (HR.out.below.trans (hb2.mono HR.out.below.size))
      clear hb2
      go_wp2_with fail
      go_ret
      exact ⟨rfl, HB.out⟩

theorem walks_walk (x : Int) (A : Option Addr) (cap : Nat) (ops : List Op8) (w : World) (hO : SlO w A ops) :
    Calls Try.prog 9 #[.int .i64 x, .slice A ops.length cap] w fun e w' => e = .returned (.bool true) ∧ Below w.heap.size w w' := by
  by_cases h : x < 1 ∨ 16 < x ∨ 40 < ops.length
  · exact walks_out x A ops.length cap w h
  · obtain ⟨n, rfl⟩ := Int.eq_ofNat_of_zero_le (a := x) (by omega)
    exact walks_in n A cap ops w hO (by omega) (by omega) (by omega)

end Go.Proofs.Ytnablldaaajhkaa
