/- What this text holds: what whatever word tells a walk. No condition. -/
import Derived.Test.YtjggnhcdnfmmeaaTblM
namespace Go.Proofs.Ytjggnhcdnfmmeaa
open Go.RowKit

theorem next_formA (n g at' word : Int) (w : World) (h1 : 1 ≤ n) (h2 : n ≤ 16) (h3 : 0 ≤ g) (h4 : g < n) (h5 : at' = g / 4) (h6 : word ≠ 4 * ((n + 3) / 4 + g / 4 * 4) + 1) (h7 : word.tmod 4 ≠ 0) :
    Calls Try.prog 44 #[.int .i64 n, .int .i64 g, .int .i64 at', .int .i64 word] w fun e w' => e = .returned (.tuple #[.int .i64 0, .agg #[.int .i64 0, .bool false], .bool false, .int .i64 14]) ∧ Below w.heap.size w w' := by
  have e5 : (at' == g / 4) = true := by rw [h5]; simp
  have e6 : (word == 4 * ((n + 3) / 4 + g / 4 * 4) + 1) = false := by simpa using h6
  have e7 : (word.tmod 4 == 0) = false := by simpa using h7
  clear h5 h6 h7
  go_enter Try.func44, Try.ntmps44
  go_wp2_with fail
  refine (place_any _ _ _ (by omega) (by omega) (by omega) (by omega)).mono ?_
  rintro e w' ⟨rfl, rfl⟩
  go_wp2_with fail
  refine (place_any _ _ _ (by omega) (by omega) (by omega) (by omega)).mono ?_
  rintro e w' ⟨rfl, rfl⟩
  go_wp2_with fail
  (try simp only [Exit.inBlock, Exit.then]); refine bodyPost_ret (by simp [results, Try.results44, go_sem]; try rfl) rfl ?_
  exact ⟨rfl, (by repeat (with_reducible first | exact Below.refl _ _ | assumption | (refine ext_next (by assumption) ?_) | apply ext_alloc | apply ext_past | apply ext_drew | apply ext_drewN))⟩

theorem next_plainQ (n g at' word : Int) (b : Bool) (w : World) (h1 : 1 ≤ n) (h2 : n ≤ 16) (h3 : 0 ≤ g) (h4 : g < n) (h5 : at' = g / 4) (h6 : word ≠ 4 * ((n + 3) / 4 + g / 4 * 4) + 1) (h7 : word.tmod 4 = 0) (h8 : ownB (wrap64 (word.tdiv 4)) = b) :
    Calls Try.prog 44 #[.int .i64 n, .int .i64 g, .int .i64 at', .int .i64 word] w fun e w' => e = .returned (.tuple (if b then #[.int .i64 0, .agg #[.int .i64 (wrap64 (word.tdiv 4)), .bool false], .bool true, .int .i64 0] else #[.int .i64 0, .agg #[.int .i64 0, .bool false], .bool false, .int .i64 14])) ∧ Below w.heap.size w w' := by
  have e5 : (at' == g / 4) = true := by rw [h5]; simp
  have e6 : (word == 4 * ((n + 3) / 4 + g / 4 * 4) + 1) = false := by simpa using h6
  have e7 : (word.tmod 4 == 0) = true := by simpa using h7
  have HO := Lib.hid h8
  clear h5 h6 h7 h8
  cases b
  · go_enter Try.func44, Try.ntmps44
    go_wp2_with fail
    refine (place_any _ _ _ (by omega) (by omega) (by omega) (by omega)).mono ?_
    rintro e w' ⟨rfl, rfl⟩
    go_wp2_with fail
    refine (place_any _ _ _ (by omega) (by omega) (by omega) (by omega)).mono ?_
    rintro e w' ⟨rfl, rfl⟩
    go_wp2_with fail
    refine (owns_any _ _).mono ?_
    rintro e w' ⟨rfl, rfl⟩
    rw [HO.out]
    go_wp2_with fail
    (try simp only [Exit.inBlock, Exit.then]); refine bodyPost_ret (by simp [results, Try.results44, go_sem]; try rfl) rfl ?_
    exact ⟨rfl, (by repeat (with_reducible first | exact Below.refl _ _ | assumption | (refine ext_next (by assumption) ?_) | apply ext_alloc | apply ext_past | apply ext_drew | apply ext_drewN))⟩
  · go_enter Try.func44, Try.ntmps44
    go_wp2_with fail
    refine (place_any _ _ _ (by omega) (by omega) (by omega) (by omega)).mono ?_
    rintro e w' ⟨rfl, rfl⟩
    go_wp2_with fail
    refine (place_any _ _ _ (by omega) (by omega) (by omega) (by omega)).mono ?_
    rintro e w' ⟨rfl, rfl⟩
    go_wp2_with fail
    refine (owns_any _ _).mono ?_
    rintro e w' ⟨rfl, rfl⟩
    rw [HO.out]
    go_wp2_with fail
    (try simp only [Exit.inBlock, Exit.then]); refine bodyPost_ret (by simp [results, Try.results44, go_sem]; try rfl) rfl ?_
    exact ⟨rfl, (by repeat (with_reducible first | exact Below.refl _ _ | assumption | (refine ext_next (by assumption) ?_) | apply ext_alloc | apply ext_past | apply ext_drew | apply ext_drewN))⟩

theorem next_ownQ (n g at' word : Int) (w : World) (h1 : 1 ≤ n) (h2 : n ≤ 16) (h3 : 0 ≤ g) (h4 : g < n) (h5 : at' = (n + 3) / 4 + g) (h8 : ownB word = true) :
    Calls Try.prog 44 #[.int .i64 n, .int .i64 g, .int .i64 at', .int .i64 word] w fun e w' => e = .returned (.tuple #[.int .i64 0, .agg #[.int .i64 word, .bool false], .bool true, .int .i64 0]) ∧ Below w.heap.size w w' := by
  have e5 : (at' == g / 4) = false := by simp; omega
  have e6 : (at' == (n + 3) / 4 + g) = true := by rw [h5]; simp
  have HO := Lib.hid h8
  clear h5 h8
  go_enter Try.func44, Try.ntmps44
  go_wp2_with fail
  refine (place_any _ _ _ (by omega) (by omega) (by omega) (by omega)).mono ?_
  rintro e w' ⟨rfl, rfl⟩
  go_wp2_with fail
  refine (owns_any _ _).mono ?_
  rintro e w' ⟨rfl, rfl⟩
  rw [HO.out]
  go_wp2_with fail
  (try simp only [Exit.inBlock, Exit.then]); refine bodyPost_ret (by simp [results, Try.results44, go_sem]; try rfl) rfl ?_
  exact ⟨rfl, (by repeat (with_reducible first | exact Below.refl _ _ | assumption | (refine ext_next (by assumption) ?_) | apply ext_alloc | apply ext_past | apply ext_drew | apply ext_drewN))⟩
theorem next_formB (n g at' word : Int) (w : World) (h1 : 1 ≤ n) (h2 : n ≤ 16) (h3 : 0 ≤ g) (h4 : g < n) (h5 : at' = (n + 3) / 4 + g) (h8 : ownB word = false) (h9 : word < 8) :
    Calls Try.prog 44 #[.int .i64 n, .int .i64 g, .int .i64 at', .int .i64 word] w fun e w' => e = .returned (.tuple #[.int .i64 0, .agg #[.int .i64 0, .bool false], .bool false, .int .i64 14]) ∧ Below w.heap.size w w' := by
  have e5 : (at' == g / 4) = false := by simp; omega
  have e6 : (at' == (n + 3) / 4 + g) = true := by rw [h5]; simp
  have e9 : decide (word ≥ 8) = false := by simp; omega
  have HO := Lib.hid h8
  clear h5 h8
  go_enter Try.func44, Try.ntmps44
  go_wp2_with fail
  refine (place_any _ _ _ (by omega) (by omega) (by omega) (by omega)).mono ?_
  rintro e w' ⟨rfl, rfl⟩
  go_wp2_with fail
  refine (owns_any _ _).mono ?_
  rintro e w' ⟨rfl, rfl⟩
  rw [HO.out]
  go_wp2_with fail
  (try simp only [Exit.inBlock, Exit.then]); refine bodyPost_ret (by simp [results, Try.results44, go_sem]; try rfl) rfl ?_
  exact ⟨rfl, (by repeat (with_reducible first | exact Below.refl _ _ | assumption | (refine ext_next (by assumption) ?_) | apply ext_alloc | apply ext_past | apply ext_drew | apply ext_drewN))⟩
theorem next_lockQ (n g at' word : Int) (b : Bool) (w : World) (h1 : 1 ≤ n) (h2 : n ≤ 16) (h3 : 0 ≤ g) (h4 : g < n) (h5 : at' = (n + 3) / 4 + g) (h8 : ownB word = false) (h9 : 8 ≤ word) (h10 : ownB (wrap64 (word - 8)) = b) :
    Calls Try.prog 44 #[.int .i64 n, .int .i64 g, .int .i64 at', .int .i64 word] w fun e w' => e = .returned (.tuple (if b then #[.int .i64 0, .agg #[.int .i64 (wrap64 (word - 8)), .bool true], .bool true, .int .i64 0] else #[.int .i64 0, .agg #[.int .i64 0, .bool false], .bool false, .int .i64 14])) ∧ Below w.heap.size w w' := by
  have e5 : (at' == g / 4) = false := by simp; omega
  have e6 : (at' == (n + 3) / 4 + g) = true := by rw [h5]; simp
  have e9 : decide (word ≥ 8) = true := by simp; omega
  have HO := Lib.hid h8
  have HO2 := Lib.hid h10
  clear h5 h8 h10
  cases b
  · go_enter Try.func44, Try.ntmps44
    go_wp2_with fail
    refine (place_any _ _ _ (by omega) (by omega) (by omega) (by omega)).mono ?_
    rintro e w' ⟨rfl, rfl⟩
    go_wp2_with fail
    refine (owns_any _ _).mono ?_
    rintro e w' ⟨rfl, rfl⟩
    rw [HO.out]
    go_wp2_with fail
    refine (owns_any _ _).mono ?_
    rintro e w' ⟨rfl, rfl⟩
    rw [HO2.out]
    go_wp2_with fail
    (try simp only [Exit.inBlock, Exit.then]); refine bodyPost_ret (by simp [results, Try.results44, go_sem]; try rfl) rfl ?_
    exact ⟨rfl, (by repeat (with_reducible first | exact Below.refl _ _ | assumption | (refine ext_next (by assumption) ?_) | apply ext_alloc | apply ext_past | apply ext_drew | apply ext_drewN))⟩
  · go_enter Try.func44, Try.ntmps44
    go_wp2_with fail
    refine (place_any _ _ _ (by omega) (by omega) (by omega) (by omega)).mono ?_
    rintro e w' ⟨rfl, rfl⟩
    go_wp2_with fail
    refine (owns_any _ _).mono ?_
    rintro e w' ⟨rfl, rfl⟩
    rw [HO.out]
    go_wp2_with fail
    refine (owns_any _ _).mono ?_
    rintro e w' ⟨rfl, rfl⟩
    rw [HO2.out]
    go_wp2_with fail
    (try simp only [Exit.inBlock, Exit.then]); refine bodyPost_ret (by simp [results, Try.results44, go_sem]; try rfl) rfl ?_
    exact ⟨rfl, (by repeat (with_reducible first | exact Below.refl _ _ | assumption | (refine ext_next (by assumption) ?_) | apply ext_alloc | apply ext_past | apply ext_drew | apply ext_drewN))⟩

theorem ownB_bd {o : Int} (h : ownB o = true) : 0 ≤ o ∧ o ≤ 4 := by simpa [ownB] using h

/-- What whatever word tells: no form, or a place, or an entry. -/
theorem next_all (n g at' word : Int) (h1 : 1 ≤ n) (h2 : n ≤ 16) (h3 : 0 ≤ g) (h4 : g < n) (h5 : at' = g / 4 ∨ at' = (n + 3) / 4 + g) :
    (∀ w, Calls Try.prog 44 #[.int .i64 n, .int .i64 g, .int .i64 at', .int .i64 word] w fun e w' => e = .returned (.tuple #[.int .i64 0, .agg #[.int .i64 0, .bool false], .bool false, .int .i64 14]) ∧ Below w.heap.size w w') ∨
    (∀ w, Calls Try.prog 44 #[.int .i64 n, .int .i64 g, .int .i64 at', .int .i64 word] w fun e w' => e = .returned (.tuple #[.int .i64 ((n + 3) / 4 + g), .agg #[.int .i64 0, .bool false], .bool false, .int .i64 0]) ∧ Below w.heap.size w w') ∨
    ∃ (o : Int) (l : Bool), 0 ≤ o ∧ o ≤ 4 ∧ ∀ w, Calls Try.prog 44 #[.int .i64 n, .int .i64 g, .int .i64 at', .int .i64 word] w fun e w' => e = .returned (.tuple #[.int .i64 0, .agg #[.int .i64 o, .bool l], .bool true, .int .i64 0]) ∧ Below w.heap.size w w' := by
  rcases h5 with h5 | h5
  · by_cases h6 : word = 4 * ((n + 3) / 4 + g / 4 * 4) + 1
    · exact .inr (.inl fun w => next_more n g at' word w h1 h2 h3 h4 h5 h6)
    · by_cases h7 : word.tmod 4 = 0
      · cases h8 : ownB (wrap64 (word.tdiv 4))
        · exact .inl fun w => next_plainQ n g at' word false w h1 h2 h3 h4 h5 h6 h7 h8
        · obtain ⟨a1, a2⟩ := ownB_bd h8
          exact .inr (.inr ⟨_, false, a1, a2, fun w => next_plainQ n g at' word true w h1 h2 h3 h4 h5 h6 h7 h8⟩)
      · exact .inl fun w => next_formA n g at' word w h1 h2 h3 h4 h5 h6 h7
  · cases h6 : ownB word
    · by_cases h7 : word < 8
      · exact .inl fun w => next_formB n g at' word w h1 h2 h3 h4 h5 h6 h7
      · cases h8 : ownB (wrap64 (word - 8))
        · exact .inl fun w => next_lockQ n g at' word false w h1 h2 h3 h4 h5 h6 (by omega) h8
        · obtain ⟨a1, a2⟩ := ownB_bd h8
          exact .inr (.inr ⟨_, true, a1, a2, fun w => next_lockQ n g at' word true w h1 h2 h3 h4 h5 h6 (by omega) h8⟩)
    · obtain ⟨a1, a2⟩ := ownB_bd h6
      exact .inr (.inr ⟨_, false, a1, a2, fun w => next_ownQ n g at' word w h1 h2 h3 h4 h5 h6⟩)

end Go.Proofs.Ytjggnhcdnfmmeaa
