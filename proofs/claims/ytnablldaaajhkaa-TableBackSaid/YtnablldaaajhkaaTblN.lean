/- What this text holds: a word of a table, where a walk begins, and what a word tells it; lists that are compared. No condition. -/
import Derived.Test.YtnablldaaajhkaaTblW
namespace Go.Proofs.Ytnablldaaajhkaa
open Go.RowKit

theorem first_ok (g : Int) (w : World) (h0 : 0 ≤ g) (h1 : g < 16) : Calls Try.prog 33 #[.int .i64 g] w fun e w' => e = .returned (.tuple #[.int .i64 (g / 4), .int .i64 0]) ∧ w' = w := by
  go_enter Try.func33, Try.ntmps33
  go_wp2
  go_ret2
  exact ⟨rfl, rfl⟩

theorem next_more (n g at' word : Int) (w : World) (h1 : 1 ≤ n) (h2 : n ≤ 16) (h3 : 0 ≤ g) (h4 : g < n) (h5 : at' = g / 4) (h6 : word = 4 * ((n + 3) / 4 + g / 4 * 4) + 1) :
    Calls Try.prog 35 #[.int .i64 n, .int .i64 g, .int .i64 at', .int .i64 word] w fun e w' => e = .returned (.tuple #[.int .i64 ((n + 3) / 4 + g), .agg #[.int .i64 0, .bool false], .bool false, .int .i64 0]) ∧ Below w.heap.size w w' := by
  have H6 := Lib.hid h6
  have e5 : (at' == g / 4) = true := by rw [h5]; simp
  have e6 : (word == 4 * ((n + 3) / 4 + g / 4 * 4) + 1) = true := by rw [h6]; simp
  clear h5 h6
  go_enter Try.func35, Try.ntmps35
  go_wp2_with fail
  refine (place_any _ _ _ (by omega) (by omega) (by omega) (by omega)).mono ?_
  rintro e w' ⟨rfl, rfl⟩
  go_wp2_with fail
  refine (place_any _ _ _ (by omega) (by omega) (by omega) (by omega)).mono ?_
  rintro e w' ⟨rfl, rfl⟩
  go_wp2_with fail
  (try simp only [Exit.inBlock, Exit.then]); refine bodyPost_ret (by simp [results, Try.results35, go_sem]; try rfl) rfl ?_
  exact ⟨rfl, (by repeat (with_reducible first | exact Below.refl _ _ | assumption | (refine ext_next (by assumption) ?_) | apply ext_alloc | apply ext_past | apply ext_drew | apply ext_drewN))⟩

theorem next_plain (n g at' word o : Int) (w : World) (h1 : 1 ≤ n) (h2 : n ≤ 16) (h3 : 0 ≤ g) (h4 : g < n) (h5 : at' = g / 4) (h6 : word = 4 * o) (h7 : 0 ≤ o) (h8 : o ≤ 4) :
    Calls Try.prog 35 #[.int .i64 n, .int .i64 g, .int .i64 at', .int .i64 word] w fun e w' => e = .returned (.tuple #[.int .i64 0, .agg #[.int .i64 o, .bool false], .bool true, .int .i64 0]) ∧ Below w.heap.size w w' := by
  have e5 : (at' == g / 4) = true := by rw [h5]; simp
  subst h6
  have e6 : (4 * o == 4 * ((n + 3) / 4 + g / 4 * 4) + 1) = false := by simp; omega
  have ho : ownB o = true := by simp [ownB]; omega
  have HO := Lib.hid ho
  clear h5 ho
  go_enter Try.func35, Try.ntmps35
  go_wp2_with fail
  refine (place_any _ _ _ (by omega) (by omega) (by omega) (by omega)).mono ?_
  rintro e w' ⟨rfl, rfl⟩
  go_wp2_with fail
  refine (place_any _ _ _ (by omega) (by omega) (by omega) (by omega)).mono ?_
  rintro e w' ⟨rfl, rfl⟩
  go_wp2_with fail
  refine (owns_any _ _).mono ?_
  rintro e w' ⟨rfl, rfl⟩
  rw [HO.out]
  go_wp2_with fail
  (try simp only [Exit.inBlock, Exit.then]); refine bodyPost_ret (by simp [results, Try.results35, go_sem]; try rfl) rfl ?_
  exact ⟨rfl, (by repeat (with_reducible first | exact Below.refl _ _ | assumption | (refine ext_next (by assumption) ?_) | apply ext_alloc | apply ext_past | apply ext_drew | apply ext_drewN))⟩

theorem next_own (n g at' word o : Int) (l : Bool) (w : World) (h1 : 1 ≤ n) (h2 : n ≤ 16) (h3 : 0 ≤ g) (h4 : g < n) (h5 : at' = (n + 3) / 4 + g) (h6 : word = entW (o, l)) (h7 : 0 ≤ o) (h8 : o ≤ 4) :
    Calls Try.prog 35 #[.int .i64 n, .int .i64 g, .int .i64 at', .int .i64 word] w fun e w' => e = .returned (.tuple #[.int .i64 0, .agg #[.int .i64 o, .bool l], .bool true, .int .i64 0]) ∧ Below w.heap.size w w' := by
  have e5 : (at' == g / 4) = false := by simp; omega
  have e6 : (at' == (n + 3) / 4 + g) = true := by rw [h5]; simp
  cases l
  · have h6' : word = o := h6
    subst h6'
    have ho : ownB word = true := by simp [ownB]; omega
    have HO := Lib.hid ho
    clear h5 ho h6
    go_enter Try.func35, Try.ntmps35
    go_wp2_with fail
    refine (place_any _ _ _ (by omega) (by omega) (by omega) (by omega)).mono ?_
    rintro e w' ⟨rfl, rfl⟩
    go_wp2_with fail
    refine (owns_any _ _).mono ?_
    rintro e w' ⟨rfl, rfl⟩
    rw [HO.out]
    go_wp2_with fail
    (try simp only [Exit.inBlock, Exit.then]); refine bodyPost_ret (by simp [results, Try.results35, go_sem]; try rfl) rfl ?_
    exact ⟨rfl, (by repeat (with_reducible first | exact Below.refl _ _ | assumption | (refine ext_next (by assumption) ?_) | apply ext_alloc | apply ext_past | apply ext_drew | apply ext_drewN))⟩
  · have h6' : word = o + 8 := h6
    have ho : ownB word = false := by simp [ownB]; omega
    have ho2 : ownB (word - 8) = true := by simp [ownB]; omega
    have HO := Lib.hid ho
    have HO2 := Lib.hid ho2
    have H6 : Hid (o = word - 8) := by show _ = _; omega
    have h9 : 8 ≤ word := by omega
    have h10 : word ≤ 12 := by omega
    clear h5 ho ho2 h6 h6'
    go_enter Try.func35, Try.ntmps35
    go_wp2_with fail
    refine (place_any _ _ _ (by omega) (by omega) (by omega) (by omega)).mono ?_
    rintro e w' ⟨rfl, rfl⟩
    go_wp2_with fail
    refine (owns_any _ _).mono ?_
    rintro e w' ⟨rfl, rfl⟩
    rw [HO.out]
    go_wp2_with fail
    refine (owns_any _ _).mono ?_
    rintro e w' ⟨rfl, rfl⟩
    rw [HO2.out]
    go_wp2_with fail
    (try simp only [Exit.inBlock, Exit.then]); refine bodyPost_ret (by simp [results, Try.results35, go_sem]; try rfl) rfl ?_
    rw [H6.out]
    exact ⟨rfl, (by repeat (with_reducible first | exact Below.refl _ _ | assumption | (refine ext_next (by assumption) ?_) | apply ext_alloc | apply ext_past | apply ext_drew | apply ext_drewN))⟩

theorem ints_len (A B : Option Addr) (n m c d : Nat) (w : World) (h : n ≠ m) : Calls Try.prog 30 #[.slice A n c, .slice B m d] w fun e w' => e = .returned (.bool false) ∧ w' = w := by
  have e0 : ((n : Int) != (m : Int)) = true := by simp; omega
  go_enter Try.func30, Try.ntmps30
  go_wp2
  go_ret
  exact ⟨rfl, rfl⟩

theorem ints_any (A B : Option Addr) (xs ys : List Int) (n c d : Nat) (w : World) (hx : SlI w A xs) (hy : SlI w B ys) (hnx : xs.length = n) (hny : ys.length = n) (hn : n < 1000) :
    Calls Try.prog 30 #[.slice A n c, .slice B n d] w fun e w' => e = .returned (.bool (decide (xs = ys))) ∧ Below w.heap.size w w' := by
  by_cases h0 : 0 < n
  · obtain ⟨b, off, rfl, hl, hc⟩ := hx (by omega)
    obtain ⟨b2, off2, rfl, hl2, hc2⟩ := hy (by omega)
    have HX := Lib.hid hc
    have HY := Lib.hid hc2
    have NX := Lib.hid hnx
    have NY := Lib.hid hny
    have e0 : ((n : Int) != (n : Int)) = false := by simp
    clear hc hc2 hx hy hnx hny
    go_enter Try.func30, Try.ntmps30
    go_wp2
    go_loopg [5] n (fun g3 s3 wr => ∃ k : Nat, k + g3 = n ∧ s3 = .int .i64 k ∧ Hid (xs.take k = ys.take k) ∧ Hid (Below w.heap.size w wr))
    case atStart => exact ⟨0, by omega, rfl, by show _ = _; simp, Below.refl _ _⟩
    case round =>
      obtain ⟨k, hk, rfl, HT, HB⟩ := hrel
      have hs := HB.out.size
      by_cases hkn : k < n
      · have x0 := (HB.out.cell (p := ⟨b, off + k, none⟩) hl).trans (HX.out k (by rw [NX.out]; exact hkn))
        have y0 := (HB.out.cell (p := ⟨b2, off2 + k, none⟩) hl2).trans (HY.out k (by rw [NY.out]; exact hkn))
        have ek : decide ((k : Int) < (n : Int)) = true := by simp; omega
        have T1 : Hid (xs.take (k + 1) = xs.take k ++ [xs[k]?.getD 0]) := by
          show _ = _
          have := NX.out
          rw [List.take_succ_eq_append_getElem (by omega)]
          simp [List.getElem?_eq_getElem (show k < xs.length by omega)]
        have T2 : Hid (ys.take (k + 1) = ys.take k ++ [ys[k]?.getD 0]) := by
          show _ = _
          have := NY.out
          rw [List.take_succ_eq_append_getElem (by omega)]
          simp [List.getElem?_eq_getElem (show k < ys.length by omega)]
        generalize hqx : xs[k]?.getD 0 = qx at x0 T1
        generalize hqy : ys[k]?.getD 0 = qy at y0 T2
        have HQX := Lib.hid hqx
        have HQY := Lib.hid hqy
        clear hqx hqy
        by_cases hq : qx = qy
        · have eq : (qx != qy) = false := by simp [hq]
          have HQ := Lib.hid hq
          clear hq
          go_wp2
          go_region
          all_goals (try go_wp2)
          go_roundg (n - (k + 1))
          case measure => omega
          case rel => exact ⟨k + 1, by omega, by go_num, by show _ = _; rw [T1.out, T2.out, HT.out, HQ.out], HB.out.drew⟩
        · have eq : (qx != qy) = true := by simp [hq]
          have HQ := Lib.hid hq
          clear hq
          go_wp2
          go_region
          all_goals (try go_wp2)
          go_ret
          refine ⟨ret_bool ?_, HB.out.drew⟩
          symm
          rw [decide_eq_false_iff_not]
          intro h
          apply HQ.out
          rw [← HQX.out, ← HQY.out, h]
      · have ek : decide ((k : Int) < (n : Int)) = false := by simp; omega
        obtain rfl : k = n := by omega
        go_wp2
        go_ret
        refine ⟨ret_bool ?_, HB.out⟩
        have := HT.out
        rw [← NX.out, List.take_length, NX.out, ← NY.out, List.take_length] at this
        simp [this]
  · obtain rfl : n = 0 := by omega
    have hx0 : xs = [] := List.eq_nil_of_length_eq_zero hnx
    have hy0 : ys = [] := List.eq_nil_of_length_eq_zero hny
    subst hx0 hy0
    clear hx hy
    go_enter Try.func30, Try.ntmps30
    go_wp2
    refine wp_loop_rounds 1 ?_
    rw [rounds_succ]
    go_wp2
    go_ret
    exact ⟨rfl, Below.refl _ _⟩

end Go.Proofs.Ytnablldaaajhkaa
