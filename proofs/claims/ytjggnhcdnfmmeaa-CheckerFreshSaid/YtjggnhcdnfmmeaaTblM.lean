/- What this text holds: where a walk begins, and what a word tells it. No condition. -/
import Derived.Test.YtjggnhcdnfmmeaaTblW
namespace Go.Proofs.Ytjggnhcdnfmmeaa
open Go.RowKit

theorem first_ok (g : Int) (w : World) (h0 : 0 ≤ g) (h1 : g < 16) : Calls Try.prog 43 #[.int .i64 g] w fun e w' => e = .returned (.tuple #[.int .i64 (g / 4), .int .i64 0]) ∧ w' = w := by
  go_enter Try.func43, Try.ntmps43
  go_wp2
  go_ret2
  exact ⟨rfl, rfl⟩

theorem next_more (n g at' word : Int) (w : World) (h1 : 1 ≤ n) (h2 : n ≤ 16) (h3 : 0 ≤ g) (h4 : g < n) (h5 : at' = g / 4) (h6 : word = 4 * ((n + 3) / 4 + g / 4 * 4) + 1) :
    Calls Try.prog 44 #[.int .i64 n, .int .i64 g, .int .i64 at', .int .i64 word] w fun e w' => e = .returned (.tuple #[.int .i64 ((n + 3) / 4 + g), .agg #[.int .i64 0, .bool false], .bool false, .int .i64 0]) ∧ Below w.heap.size w w' := by
  have H6 := Lib.hid h6
  have e5 : (at' == g / 4) = true := by rw [h5]; simp
  have e6 : (word == 4 * ((n + 3) / 4 + g / 4 * 4) + 1) = true := by rw [h6]; simp
  clear h5 h6
  go_enter Try.func44, Try.ntmps44
  go_wp2_with fail
  refine (place_any _ _ _ (by omega) (by omega) (by omega) (by omega)).mono ?_
  rintro e w' ⟨rfl, rfl⟩
  go_wp2_with fail
  refine (place_any _ _ _ (by omega) (by omega) (by omega) (by omega)).mono ?_
  rintro e w' ⟨rfl, rfl⟩
  go_wp2_with fail
  (try simp only [Exit.inBlock, Exit.then]); refine bodyPost_ret (by simp [results, Try.results44, go_sem]; try rfl) rfl ?_
  exact ⟨rfl, (by repeat (with_reducible first | exact Below.refl _ _ | assumption | (refine ext_next (by assumption) ?_) | apply ext_alloc | apply ext_past | apply ext_drew | apply ext_drewN))⟩

theorem next_plain (n g at' word o : Int) (w : World) (h1 : 1 ≤ n) (h2 : n ≤ 16) (h3 : 0 ≤ g) (h4 : g < n) (h5 : at' = g / 4) (h6 : word = 4 * o) (h7 : 0 ≤ o) (h8 : o ≤ 4) :
    Calls Try.prog 44 #[.int .i64 n, .int .i64 g, .int .i64 at', .int .i64 word] w fun e w' => e = .returned (.tuple #[.int .i64 0, .agg #[.int .i64 o, .bool false], .bool true, .int .i64 0]) ∧ Below w.heap.size w w' := by
  have e5 : (at' == g / 4) = true := by rw [h5]; simp
  subst h6
  have e6 : (4 * o == 4 * ((n + 3) / 4 + g / 4 * 4) + 1) = false := by simp; omega
  have ho : ownB o = true := by simp [ownB]; omega
  have HO := Lib.hid ho
  clear h5 ho
  go_enter Try.func44, Try.ntmps44
  go_wp2_with fail
  refine (place_any _ _ _ (by omega) (by omega) (by omega) (by omega)).mono ?_
  rintro e w' ⟨rfl, rfl⟩
  go_wp2_with fail
  refine (place_any _ _ _ (by omega) (by omega) (by omega) (by omega)).mono ?_
  rintro e w' ⟨rfl, rfl⟩
  go_wp2_with fail
  refine (owns_any _ _).mono ?_
  rintro e w' ⟨rfl, rfl⟩
  rw [HO.out]
  go_wp2_with fail
  (try simp only [Exit.inBlock, Exit.then]); refine bodyPost_ret (by simp [results, Try.results44, go_sem]; try rfl) rfl ?_
  exact ⟨rfl, (by repeat (with_reducible first | exact Below.refl _ _ | assumption | (refine ext_next (by assumption) ?_) | apply ext_alloc | apply ext_past | apply ext_drew | apply ext_drewN))⟩

theorem next_own (n g at' word o : Int) (l : Bool) (w : World) (h1 : 1 ≤ n) (h2 : n ≤ 16) (h3 : 0 ≤ g) (h4 : g < n) (h5 : at' = (n + 3) / 4 + g) (h6 : word = entW (o, l)) (h7 : 0 ≤ o) (h8 : o ≤ 4) :
    Calls Try.prog 44 #[.int .i64 n, .int .i64 g, .int .i64 at', .int .i64 word] w fun e w' => e = .returned (.tuple #[.int .i64 0, .agg #[.int .i64 o, .bool l], .bool true, .int .i64 0]) ∧ Below w.heap.size w w' := by
  have e5 : (at' == g / 4) = false := by simp; omega
  have e6 : (at' == (n + 3) / 4 + g) = true := by rw [h5]; simp
  cases l
  · have h6' : word = o := h6
    subst h6'
    have ho : ownB word = true := by simp [ownB]; omega
    have HO := Lib.hid ho
    clear h5 ho h6
    go_enter Try.func44, Try.ntmps44
    go_wp2_with fail
    refine (place_any _ _ _ (by omega) (by omega) (by omega) (by omega)).mono ?_
    rintro e w' ⟨rfl, rfl⟩
    go_wp2_with fail
    refine (owns_any _ _).mono ?_
    rintro e w' ⟨rfl, rfl⟩
    rw [HO.out]
    go_wp2_with fail
    (try simp only [Exit.inBlock, Exit.then]); refine bodyPost_ret (by simp [results, Try.results44, go_sem]; try rfl) rfl ?_
    exact ⟨rfl, (by repeat (with_reducible first | exact Below.refl _ _ | assumption | (refine ext_next (by assumption) ?_) | apply ext_alloc | apply ext_past | apply ext_drew | apply ext_drewN))⟩
  · have h6' : word = o + 8 := h6
    have ho : ownB word = false := by simp [ownB]; omega
    have ho2 : ownB (word - 8) = true := by simp [ownB]; omega
    have HO := Lib.hid ho
    have HO2 := Lib.hid ho2
    have H6 : Hid (o = word - 8) := by show _ = _; omega
    have h9 : 8 ≤ word := by omega
    have h10 : word ≤ 12 := by omega
    clear h5 ho ho2 h6 h6'
    go_enter Try.func44, Try.ntmps44
    go_wp2_with fail
    refine (place_any _ _ _ (by omega) (by omega) (by omega) (by omega)).mono ?_
    rintro e w' ⟨rfl, rfl⟩
    go_wp2_with fail
    refine (owns_any _ _).mono ?_
    rintro e w' ⟨rfl, rfl⟩
    rw [HO.out]
    go_wp2_with fail
    refine (owns_any _ _).mono ?_
    rintro e w' ⟨rfl, rfl⟩
    rw [HO2.out]
    go_wp2_with fail
    (try simp only [Exit.inBlock, Exit.then]); refine bodyPost_ret (by simp [results, Try.results44, go_sem]; try rfl) rfl ?_
    rw [H6.out]
    exact ⟨rfl, (by repeat (with_reducible first | exact Below.refl _ _ | assumption | (refine ext_next (by assumption) ?_) | apply ext_alloc | apply ext_past | apply ext_drew | apply ext_drewN))⟩


end Go.Proofs.Ytjggnhcdnfmmeaa
