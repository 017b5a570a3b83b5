/- What this text holds: the chapter's example of the table, as the package of statements runs it. No condition. -/
import Derived.Test.YtnablldaaajhkaaTblN
namespace Go.Proofs.Ytnablldaaajhkaa
open Go.RowKit

theorem good_rep (n : Nat) : Good (List.replicate n (0, false)) := by
  intro i hi
  have : i < n := by simpa using hi
  simp [atE, this]
theorem good_set {es : List En} (h : Good es) (j : Nat) {x : En} (hx : ownB x.1 = true) : Good (es.set j x) := by
  intro i hi
  have hi' : i < es.length := by simpa using hi
  by_cases hij : j = i
  · subst hij
    simp only [atE, List.getElem?_set_self hi', Option.getD_some]
    simpa [ownB] using hx
  · simp only [atE, List.getElem?_set_ne hij]
    exact h i hi'

theorem sl_new (w : World) (xs : List Int) (cs : Array Value) (t : TypeId) (h : cs.toList = xs.map (Value.int .i64)) : SlI (w.alloc (.cells cs t)) (some ⟨w.heap.size, 0, none⟩) xs := by
  intro _
  refine ⟨w.heap.size, 0, rfl, by simp, fun i hi => ?_⟩
  unfold World.cell?
  rw [heap_alloc_new w (.cells cs t)]
  simp only [Nat.zero_add]
  have : cs[i]? = some (Value.int .i64 (xs[i]?.getD 0)) := by
    rw [← Array.getElem?_toList, h]
    simp [hi]
  simpa using this

theorem wordsEx : wordsOf ((List.replicate 5 ((0, false) : En)).set 1 (2, false)) = [9, 0, 0, 2, 0, 0, 0] := by decide

set_option maxRecDepth 100000 in
set_option maxHeartbeats 4000000 in
theorem awake08 (w : World) : Calls Try.prog 14 #[] w fun e w' => e = .returned (.bool true) ∧ Below w.heap.size w w' := by
  go_enter Try.func14, Try.ntmps14
  go_wp2_with fail
  refine (new_ok 5 _ (by decide) (by decide)).mono ?_
  rintro e w1 ⟨rfl, hT1, hB1, hs1⟩
  have HT1 := Lib.hid hT1
  have HB1 := Lib.hid hB1
  clear hT1 hB1
  go_wp2_with fail
  refine (set_yes (w.heap.size + 1) w.heap.size _ 1 2 false _ HT1.out (by decide) (by decide) (by decide)).mono ?_
  rintro e w2 ⟨rfl, hg2, hT2⟩
  have HT2 : Hid (Tb w2 (w.heap.size + 1) w.heap.size ((List.replicate 5 ((0, false) : En)).set 1 (2, false))) := hT2
  have HB2 := Lib.hid (grown_below HB1.out hg2 (Nat.le_refl _))
  clear hg2 hT2
  go_wp2_with fail
  refine (next_more 5 1 0 9 _ (by decide) (by decide) (by decide) (by decide) (by decide) (by decide)).mono ?_
  rintro e w3 ⟨rfl, hB3⟩
  have HT3 := Lib.hid (HT2.out.ext hB3)
  have HB3 := Lib.hid (HB2.out.trans (hB3.mono HB2.out.size))
  clear hB3
  go_wp2_with fail
  refine (next_own 5 1 3 2 2 false _ (by decide) (by decide) (by decide) (by decide) (by decide) (by decide) (by decide) (by decide)).mono ?_
  rintro e w4 ⟨rfl, hB4⟩
  have hB4' : Below w3.heap.size w3 w4 := (by repeat (with_reducible first | exact Below.refl _ _ | assumption | (refine ext_next (by assumption) ?_) | apply ext_alloc | apply ext_past | apply ext_drew | apply ext_drewN))
  have HT4 := Lib.hid (HT3.out.ext hB4')
  have HB4 := Lib.hid (HB3.out.trans (hB4'.mono HB3.out.size))
  clear hB4 hB4'
  go_wp2_with fail
  have hW := words_any (w.heap.size + 1) w.heap.size _ _ (HT4.out.ext ((Below.refl _ _).alloc (Nat.le_refl _) (.cells #[.int .i64 2, .bool false] 57))) (by decide) (good_set (good_rep 5) 1 (x := (2, false)) (by decide))
  rw [wordsEx] at hW
  refine hW.mono ?_
  clear hW
  rintro e w5 ⟨A, cap, rfl, hsl, _, hB5⟩
  have hB5' : Below w4.heap.size w4 w5 := (by repeat (with_reducible first | exact Below.refl _ _ | assumption | (refine ext_next (by assumption) ?_) | apply ext_alloc | apply ext_past | apply ext_drew | apply ext_drewN))
  have c0 : w5.cell? ⟨w4.heap.size, 0, none⟩ = some (.int .i64 2) := (hB5.cell (p := ⟨w4.heap.size, 0, none⟩) (by simp)).trans (by simp [World.cell?_alloc_at])
  have c1 : w5.cell? ⟨w4.heap.size, 1, none⟩ = some (.bool false) := (hB5.cell (p := ⟨w4.heap.size, 1, none⟩) (by simp)).trans (by simp [World.cell?_alloc_at])
  have s5 : w4.heap.size < w5.heap.size := by have := hB5.size; simp at this; omega
  have HS := Lib.hid hsl
  have HB5 := Lib.hid (HB4.out.trans (hB5'.mono HB4.out.size))
  clear hB5 hB5' hsl
  go_wp2_with fail
  refine (ints_any A _ [9, 0, 0, 2, 0, 0, 0] [9, 0, 0, 2, 0, 0, 0] 7 _ _ _ (HS.out.alloc _) (sl_new _ _ _ _ rfl) rfl rfl (by decide)).mono ?_
  rintro e w6 ⟨rfl, hB6⟩
  have hB6' : Below w5.heap.size w5 w6 := (by repeat (with_reducible first | exact Below.refl _ _ | assumption | (refine ext_next (by assumption) ?_) | apply ext_alloc | apply ext_past | apply ext_drew | apply ext_drewN))
  have d0 := (hB6'.cell (p := ⟨w4.heap.size, 0, none⟩) s5).trans c0
  have d1 := (hB6'.cell (p := ⟨w4.heap.size, 1, none⟩) s5).trans c1
  have s6 : w4.heap.size < w6.heap.size := Nat.lt_of_lt_of_le s5 hB6'.size
  have HB6 := Lib.hid (HB5.out.trans (hB6'.mono HB5.out.size))
  have ed : decide (([9, 0, 0, 2, 0, 0, 0] : List Int) = [9, 0, 0, 2, 0, 0, 0]) = true := by decide
  rw [ed]
  clear hB6 hB6' c0 c1 ed
  go_wp2_with fail
  go_ret
  exact ⟨rfl, HB6.out⟩

end Go.Proofs.Ytnablldaaajhkaa
