/- What this text holds: the chapter's example of layer 9. No condition. -/
import Derived.Test.YtjggnhcdnfmmeaaChkQ
import Derived.Test.YtjggnhcdnfmmeaaChkL
namespace Go.Proofs.Ytjggnhcdnfmmeaa
open Go.RowKit

theorem at_one : AtFirst [(1, 2)] 1 0 := ⟨by simp, rfl, fun i hi => by omega⟩
theorem no_zero : Nowhere [(1, 2)] 0 := fun i hi => by
  simp at hi
  subst hi
  simp [atF]

set_option maxRecDepth 100000 in
set_option maxHeartbeats 4000000 in
theorem awake09 (w : World) : Calls Try.prog 12 #[] w fun e w' => e = .returned (.bool true) ∧ Below w.heap.size w w' := by
  have HW := Lib.hid (Below.refl w.heap.size w)
  go_enter Try.func12, Try.ntmps12
  go_wp2_with fail
  refine (cnew_ok 1 5 w (by omega) (by omega) (by omega) (by omega)).mono ?_
  rintro e w1 ⟨rfl, hC, hb⟩
  have HB1 := Lib.hid hb
  have HC1 := Lib.hid hC
  clear hC hb HW
  go_wp2_with fail
  refine (cbegin_ok _ _ _ 1 w1 HC1.out (by simp) (by omega) (by simp) (by simp) (fun i hi => by simp at hi) rfl).mono ?_
  rintro e w2 ⟨rfl, hC, hg⟩
  have HB2 := Lib.hid ((Tc.of_grown (r := none) hg).below HB1.out (Nat.le_refl _) (fun g h => by cases h))
  have HC2 := Lib.hid hC
  clear hC hg HB1 HC1
  go_wp2_with fail
  refine (cwalked_more _ _ _ 9 3 w2 HC2.out rfl rfl (by simp) (by simp) (fun w => next_more 5 1 0 9 w (by omega) (by omega) (by omega) (by omega) (by decide) (by decide))).mono ?_
  rintro e w3 ⟨rfl, hC, hg⟩
  have HB3 := Lib.hid ((Tc.of_grown (r := none) hg).below HB2.out (Nat.le_refl _) (fun g h => by cases h))
  have HC3 := Lib.hid hC
  clear hC hg HB2 HC2
  go_wp2_with fail
  refine (cwalked_learn _ _ _ 2 2 w3 HC3.out rfl rfl (by simp) (by simp) (fun w => next_own 5 1 3 2 2 false w (by omega) (by omega) (by omega) (by omega) (by decide) (by decide) (by omega) (by omega)) (by simp) (by simp)).mono ?_
  rintro e w4 ⟨rfl, v4, hC, hT, hF⟩
  have HB4 := Lib.hid (hT.below HB3.out (Nat.le_refl _) (fun g h => by cases h))
  have HF4 : Hid (∀ g, v4.ownBlock = some g → w.heap.size ≤ g) := Lib.hid (fun g hg => by
    have h3 := HB3.out.size
    rcases hF g hg with h | h
    · cases h
    · omega)
  have HC4 : Hid (Ck w4 w.heap.size v4 ⟨false, 0, 0, false, 1, 5, [(1, 2)]⟩) := Lib.hid hC
  clear hC hT hF HB3 HC3
  go_wp2_with fail
  refine (cask_ok _ _ _ 2 1 1 w4 HC4.out (by simp) (by omega) (by simp) (by omega) (by omega) (.inr ⟨0, at_one, rfl⟩)).mono ?_
  rintro e w5 ⟨rfl, hb⟩
  have HB5 := Lib.hid (HB4.out.trans (hb.mono HB4.out.size))
  have HC5 := Lib.hid (HC4.out.ext hb)
  clear hb HB4 HC4
  go_wp2_with fail
  refine (cask_ok _ _ _ 1 1 2 w5 HC5.out (by simp) (by omega) (by simp) (by omega) (by omega) (.inr ⟨0, at_one, rfl⟩)).mono ?_
  rintro e w6 ⟨rfl, hb⟩
  have HB6 := Lib.hid (HB5.out.trans (hb.mono HB5.out.size))
  have HC6 := Lib.hid (HC5.out.ext hb)
  clear hb HB5 HC5
  go_wp2_with fail
  refine (cask_ok _ _ _ 2 0 3 w6 HC6.out (by simp) (by omega) (by simp) (by omega) (by omega) (.inl ⟨no_zero, rfl⟩)).mono ?_
  rintro e w7 ⟨rfl, hb⟩
  have HB7 := Lib.hid (HB6.out.trans (hb.mono HB6.out.size))
  have HC7 := Lib.hid (HC6.out.ext hb)
  clear hb HB6 HC6
  go_wp2_with fail
  refine (cbegin_ok _ _ _ 0 w7 HC7.out (by simp) (by omega) (by simp) (by simp) no_zero rfl).mono ?_
  rintro e w8 ⟨rfl, hC, hg⟩
  have HB8 := Lib.hid ((Tc.of_grown (r := none) hg).below HB7.out (Nat.le_refl _) (fun g h => by cases h))
  have HC8 := Lib.hid hC
  clear hC hg HB7 HC7
  go_wp2_with fail
  refine (cdrop_ok _ _ _ 0 w8 HC8.out (by simp) (by omega) (by simp)).mono ?_
  rintro e w9 ⟨rfl, v9, hC, hT, hF⟩
  have HB9 := Lib.hid (hT.below HB8.out (Nat.le_refl _) HF4.out)
  have HC9 : Hid (Ck w9 w.heap.size v9 ⟨true, 0, 0, true, 1, 5, [(1, 2)]⟩) := Lib.hid hC
  clear hC hT hF HB8 HC8 HF4
  go_wp2_with fail
  refine (cwalked_stale _ _ _ 8 w9 HC9.out rfl rfl (by simp) (by simp)).mono ?_
  rintro e w10 ⟨rfl, hC, hg⟩
  have HB10 := Lib.hid ((Tc.of_grown (r := none) hg).below HB9.out (Nat.le_refl _) (fun g h => by cases h))
  clear hC hg HB9 HC9
  go_wp2_with fail
  go_ret
  exact ⟨rfl, HB10.out⟩

end Go.Proofs.Ytjggnhcdnfmmeaa
