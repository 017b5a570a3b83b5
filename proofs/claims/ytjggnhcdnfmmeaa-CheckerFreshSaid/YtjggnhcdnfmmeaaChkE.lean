/- What this text holds: facts that are deleted where they lie: the loop. No condition. -/
import Derived.Test.YtjggnhcdnfmmeaaChkD
namespace Go.Proofs.Ytjggnhcdnfmmeaa
open Go.RowKit

theorem kept_all {g : Int} {ks : List Fa} (h : ∀ i, i < ks.length → delB g (atF ks i).1 = false) : kept g ks = ks := by
  unfold kept
  rw [List.filter_eq_self]
  intro k hk
  obtain ⟨i, hi, rfl⟩ := List.getElem_of_mem hk
  have := h i hi
  simp [atF, hi] at this
  simp [this]
theorem take_fact {ks : List Fa} {k : Nat} (h : k < ks.length) : ks.take (k + 1) = ks.take k ++ [atF ks k] := by
  rw [List.take_succ_eq_append_getElem h]
  simp [atF, h]
theorem kept_keep {g : Int} {ks : List Fa} {k : Nat} (h : k < ks.length) (hd : delB g (atF ks k).1 = false) : kept g (ks.take (k + 1)) = kept g (ks.take k) ++ [atF ks k] := by
  rw [take_fact h]
  simp [kept, hd]
theorem kept_drop {g : Int} {ks : List Fa} {k : Nat} (h : k < ks.length) (hd : delB g (atF ks k).1 = true) : kept g (ks.take (k + 1)) = kept g (ks.take k) := by
  rw [take_fact h]
  simp [kept, hd]
theorem kept_len (g : Int) (ks : List Fa) : (kept g ks).length ≤ ks.length := List.length_filter_le _ _
theorem first_del (g : Int) (ks : List Fa) : ∀ n, n ≤ ks.length → (∃ k, k < ks.length ∧ delB g (atF ks k).1 = true ∧ ∀ i, i < k → delB g (atF ks i).1 = false) ∨ ∀ i, i < n → delB g (atF ks i).1 = false
  | 0, _ => .inr (fun i hi => by omega)
  | n + 1, h => by
    rcases first_del g ks n (by omega) with h1 | h1
    · exact .inl h1
    · cases hn : delB g (atF ks n).1
      · refine .inr (fun i hi => ?_)
        by_cases hin : i = n
        · rw [hin]; exact hn
        · exact h1 i (by omega)
      · exact .inl ⟨n, by omega, hn, h1⟩

/-- The row while facts are deleted: those that are kept of the first j, the rest as it was from j on. -/
structure Mid (w0 w : World) (gb cap : Nat) (g : Int) (ks : List Fa) (j : Nat) : Prop where
  row : ∃ cur, w.heap[gb]? = some (.cells cur 98 (0, 0)) ∧ cur.size = cap * 2 ∧ (∀ q, q < (kept g (ks.take j)).length * 2 → cur[q]? = (flatF (kept g (ks.take j)))[q]?) ∧ (∀ q, j * 2 ≤ q → q < ks.length * 2 → cur[q]? = (flatF ks)[q]?)
  grown : w0.grownBy w (some gb)
theorem Mid.ext {w0 w w' : World} {gb cap : Nat} {g : Int} {ks : List Fa} {j : Nat} (h : Mid w0 w gb cap g ks j) (hb : Below w.heap.size w w') : Mid w0 w' gb cap g ks j := by
  obtain ⟨cur, h1, h2⟩ := h.row
  exact ⟨⟨cur, (hb.block _ (lt_of h1)).trans h1, h2⟩, grown_two h.grown ⟨hb.os, hb.tape, hb.output, hb.size, fun k hk _ => hb.block k hk⟩⟩
theorem Mid.cells {w0 w : World} {gb cap : Nat} {g : Int} {ks : List Fa} {j : Nat} (h : Mid w0 w gb cap g ks j) (hj : j < ks.length) : w.cell? ⟨gb, j * 2, none⟩ = some (.int .i64 (atF ks j).1) ∧ w.cell? ⟨gb, j * 2 + 1, none⟩ = some (.int .i64 (atF ks j).2) := by
  obtain ⟨cur, h1, h2, h3, h4⟩ := h.row
  obtain ⟨a, b⟩ := flatF_at ks j hj
  have e0 := (h4 (j * 2) (by omega) (by omega)).trans a
  have e1 := (h4 (j * 2 + 1) (by omega) (by omega)).trans b
  simp [World.cell?, h1, e0, e1]
theorem Mid.skip {w0 w : World} {gb cap : Nat} {g : Int} {ks : List Fa} {j : Nat} (h : Mid w0 w gb cap g ks j) (hj : j < ks.length) (hd : delB g (atF ks j).1 = true) : Mid w0 w gb cap g ks (j + 1) := by
  obtain ⟨cur, h1, h2, h3, h4⟩ := h.row
  exact ⟨⟨cur, h1, h2, by rw [kept_drop hj hd]; exact h3, fun q h5 h6 => h4 q (by omega) h6⟩, h.grown⟩
theorem Mid.store {w0 w : World} {gb cap : Nat} {g : Int} {ks : List Fa} {j : Nat} (h : Mid w0 w gb cap g ks j) (hj : j < ks.length) (hc : ks.length ≤ cap) (hd : delB g (atF ks j).1 = false) (i : Nat) (hi : i = (kept g (ks.take j)).length) :
    Mid w0 ((w.setCell ⟨gb, i * 2, none⟩ (.int .i64 (atF ks j).1)).setCell ⟨gb, i * 2 + 1, none⟩ (.int .i64 (atF ks j).2)) gb cap g ks (j + 1) := by
  obtain ⟨cur, h1, h2, h3, h4⟩ := h.row
  have hij : i ≤ j := by rw [hi]; have := kept_len g (ks.take j); simp at this; omega
  have s0 := Joins.block_setCell (i := i * 2) h1 (.int .i64 (atF ks j).1)
  have s1 := Joins.block_setCell (i := i * 2 + 1) s0 (.int .i64 (atF ks j).2)
  refine ⟨⟨_, s1, by simpa using h2, ?_, fun q h5 h6 => ?_⟩, grown_two h.grown ⟨rfl, rfl, rfl, by simp, fun k _ hk => (Below.heap_setCell _ _ _ _ (fun e => hk (by rw [e]))).trans (Below.heap_setCell _ _ _ _ (fun e => hk (by rw [e])))⟩⟩
  · rw [kept_keep hj hd, flatF_app, List.length_append, ← hi]
    intro q hq
    have hfl : (flatF (kept g (ks.take j))).length = i * 2 := by rw [flatF_len, hi]
    by_cases h5 : q < i * 2
    · rw [List.getElem?_append_left (by rw [hfl]; exact h5)]
      rw [← h3 q (by rw [← hi]; exact h5)]
      simp [show i * 2 + 1 ≠ q by omega, show i * 2 ≠ q by omega]
    · rw [List.getElem?_append_right (by rw [hfl]; omega), hfl]
      simp at hq
      have h6 : q = i * 2 ∨ q = i * 2 + 1 := by omega
      rcases h6 with rfl | rfl
      · have hlt : i * 2 < cur.size := by omega
        simp [flatF, hlt]
      · have hlt : i * 2 + 1 < cur.size := by omega
        rw [show i * 2 + 1 - i * 2 = 1 by omega]
        simp [flatF, hlt]
  · rw [← h4 q (by omega) h6]
    simp [show i * 2 + 1 ≠ q by omega, show i * 2 ≠ q by omega]

set_option maxRecDepth 100000 in
set_option maxHeartbeats 2000000 in
theorem deletef_some (gb cap bg bf : Nat) (ks : List Fa) (g : Int) (w : World) (h : w.ownsRow 0 98 2 (.slice (some ⟨gb, 0, none⟩) ks.length cap) ks.length (flatF ks)) (hb : Dl w bg bf g) (hl : ks.length ≤ 100) (h1 : gb ≠ bg) (h2 : gb ≠ bf) :
    Calls Try.prog 41 #[.slice (some ⟨gb, 0, none⟩) ks.length cap, .func (.func 42) #[] #[.pointer (some ⟨bf, 0, none⟩)]] w fun e w' => e = .returned (.slice (some ⟨gb, 0, none⟩) (kept g ks).length cap) ∧ CutF w w' gb cap (kept g ks) := by
  have HB := Lib.hid hb
  have HS := Lib.hid (row_slF h)
  have H := Lib.hid h
  obtain ⟨g', cur, hg', _, hgg, hnc, hcm, hcs, htk⟩ := row_open h
  cases hg'
  have hgl := lt_of hgg
  unfold maxLen at hcm
  rcases first_del g ks ks.length (Nat.le_refl _) with ⟨k, hk, hkd, hki⟩ | hno
  · have hki2 := Lib.hid hki
    have hkd2 := Lib.hid hkd
    have HM : ∀ w1, Below w.heap.size w w1 → Hid (Mid w w1 gb cap g ks (k + 1)) := fun w1 hb1 => Lib.hid (by
      have hkk : kept g (ks.take k) = ks.take k := kept_all (fun i hi => by
        simp at hi
        have := hki i (by omega)
        simpa [atF, List.getElem?_take, show i < k by omega] using this)
      refine ⟨⟨cur, (hb1.block _ hgl).trans hgg, hcs, ?_, fun q h5 h6 => ?_⟩, ⟨hb1.os, hb1.tape, hb1.output, hb1.size, fun q hq _ => hb1.block q hq⟩⟩
      · rw [kept_drop hk hkd, hkk]
        intro q hq
        simp at hq
        rw [← flatF_take, List.getElem?_take, if_pos (by omega), ← htk, List.getElem?_take, if_pos (by omega), Array.getElem?_toList]
      · rw [← htk, List.getElem?_take, if_pos h6, Array.getElem?_toList])
    have hlk : Hid ((kept g (ks.take (k + 1))).length = k) := Lib.hid (by
      rw [kept_drop hk hkd, kept_all (fun i hi => by
        simp at hi
        have := hki i (by omega)
        simpa [atF, List.getElem?_take, show i < k by omega] using this)]
      simp; omega)
    have HMh := Lib.hid HM
    clear h hb hgg hcs htk hki hkd HM
    go_enter Try.func41, Try.ntmps41
    go_wp2_with fail
    refine (indexd_any (some ⟨gb, 0, none⟩) cap bg bf ks g k _ HS.out HB.out hl (.inl ⟨k, hk, hkd2.out, hki2.out, rfl⟩)).mono ?_
    rintro e w1 ⟨rfl, hb1⟩
    have HM1 := HMh.out w1 hb1
    have HB1 := Lib.hid (HB.out.ext hb1)
    have hw1 := hb1.size
    clear hb1
    go_wp2_with fail
    go_loopg [5, 6] ks.length (fun g5 s5 s6 wr => ∃ i j : Nat, j + g5 = ks.length + k + 1 ∧ k + 1 ≤ j ∧ j ≤ ks.length ∧ i < j ∧ s5 = .int .i64 i ∧ s6 = .int .i64 j ∧ Hid (i = (kept g (ks.take j)).length) ∧ Hid (Mid w wr gb cap g ks j) ∧ Hid (Dl wr bg bf g))
    case atStart => exact ⟨k, k + 1, by omega, by omega, by omega, by omega, rfl, by simp, Lib.hid hlk.out.symm, HM1, HB1⟩
    case round =>
      obtain ⟨i, j, hj, hkj, hjn, hij, rfl, rfl, HI, HM, HD⟩ := hrel
      obtain ⟨cur', hcb, hcz, _⟩ := HM.out.row
      have hgr := lt_of hcb
      by_cases hlt : j < ks.length
      · have ek : decide ((j : Int) < (ks.length : Int)) = true := by simp; omega
        obtain ⟨c0, c1⟩ := HM.out.cells hlt
        have HX := Lib.hid hcb
        have ha0 : Hid (∀ q, q < cap * 2 → ∃ u, wr.cell? ⟨gb, q, none⟩ = some u) := Lib.hid (fun q hq => ⟨cur'[q]'(by rw [hcz]; exact hq), by simp [World.cell?, hcb]⟩)
        have hfr : ∀ q, wr.frozen? ⟨gb, q, none⟩ = false := fun q => by simp [World.frozen?, hcb]
        obtain ⟨u0, d0⟩ := ha0.out (i * 2) (by omega)
        obtain ⟨u1, d1⟩ := ha0.out (i * 2 + 1) (by omega)
        clear hcb
        cases hd : delB g (atF ks j).1
        · have HDel := Lib.hid hd
          have HM2 := Lib.hid (fun W (hb : Below wr.heap.size wr W) => (HM.out.ext hb).store hlt hnc hd i HI.out)
          have HI2 : Hid (i + 1 = (kept g (ks.take (j + 1))).length) := Lib.hid (by rw [kept_keep hlt hd, List.length_append, ← HI.out]; rfl)
          clear hd
          generalize hxy : atF ks j = xy at *
          obtain ⟨x, y⟩ := xy
          have HXY := Lib.hid hxy
          dsimp only at c0 c1
          clear hxy
          go_wp2_with fail
          refine (del_any x y g bg bf _ (HD.out.ext (ext_alloc _ (Below.refl _ _)))).mono ?_
          rintro e w2 ⟨rfl, hb2⟩
          have hdx : delB g x = false := HDel.out
          rw [hdx]
          have hb3 := ext_trans (ext_alloc (.cells #[.int .i64 x, .int .i64 y] 98) (Below.refl wr.heap.size wr)) hb2
          have HB3 := Lib.hid hb3
          have d0' := (hb3.cell (p := ⟨gb, i * 2, none⟩) hgr).trans d0
          have d1' := (hb3.cell (p := ⟨gb, i * 2 + 1, none⟩) hgr).trans d1
          have hfr' : ∀ q, w2.frozen? ⟨gb, q, none⟩ = false := fun q => (hb3.frozen (p := ⟨gb, q, none⟩) hgr).trans (hfr q)
          have hbx := (hb2.block wr.heap.size (by simp)).trans (alNew rfl)
          have x0 : w2.cell? ⟨wr.heap.size, 0, none⟩ = some (.int .i64 x) := by simp [World.cell?, hbx]
          have x1 : w2.cell? ⟨wr.heap.size, 1, none⟩ = some (.int .i64 y) := by simp [World.cell?, hbx]
          have xl := lt_of hbx
          clear hb2 hbx hdx hb3
          go_wp2_with fail
          go_roundg (ks.length + k + 1 - (j + 1))
          case measure => omega
          case rel =>
            have hm := HM2.out w2 HB3.out
            refine ⟨i + 1, j + 1, by omega, by omega, by omega, by omega, by go_num, by go_num, HI2, Lib.hid hm, Lib.hid ?_⟩
            have hd3 := HD.out.ext HB3.out
            exact ⟨(Below.heap_setCell _ _ _ _ (by simpa using Ne.symm h1)).trans ((Below.heap_setCell _ _ _ _ (by simpa using Ne.symm h1)).trans hd3.hg), (Below.heap_setCell _ _ _ _ (by simpa using Ne.symm h2)).trans ((Below.heap_setCell _ _ _ _ (by simpa using Ne.symm h2)).trans hd3.hf)⟩
        · have HDel := Lib.hid hd
          have HM2 := Lib.hid (HM.out.skip hlt hd)
          have HI2 : Hid (i = (kept g (ks.take (j + 1))).length) := Lib.hid (by rw [kept_drop hlt hd]; exact HI.out)
          clear hd
          generalize hxy : atF ks j = xy at *
          obtain ⟨x, y⟩ := xy
          dsimp only at c0 c1
          clear hxy
          go_wp2_with fail
          refine (del_any x y g bg bf _ (HD.out.ext (ext_alloc _ (Below.refl _ _)))).mono ?_
          rintro e w2 ⟨rfl, hb2⟩
          have hdx : delB g x = true := HDel.out
          rw [hdx]
          have HB3 := Lib.hid (ext_trans (ext_alloc (.cells #[.int .i64 x, .int .i64 y] 98) (Below.refl wr.heap.size wr)) hb2)
          clear hb2 hdx
          go_wp2_with fail
          go_roundg (ks.length + k + 1 - (j + 1))
          case measure => omega
          case rel => exact ⟨i, j + 1, by omega, by omega, by omega, by omega, rfl, by go_num, HI2, Lib.hid (HM2.out.ext HB3.out), Lib.hid (HD.out.ext HB3.out)⟩
      · have ek : decide ((j : Int) < (ks.length : Int)) = false := by simp; omega
        have hjn' : j = ks.length := by omega
        have hrow : Hid (wr.ownsRow 0 98 2 (.slice (some ⟨gb, 0, none⟩) i cap) i (flatF (kept g ks)) ∧ i = (kept g ks).length) := Lib.hid (by
          obtain ⟨cur, e1, e2, e3, _⟩ := HM.out.row
          have e4 := HI.out
          rw [hjn', List.take_length] at e3 e4
          exact ⟨row_make (Nat.zero_le _) e1 (by omega) (by unfold maxLen; omega) e2 (by rw [flatF_len, e4]) (fun q hq => e3 q (by rw [← e4]; exact hq)), e4⟩)
        have hin : i < ks.length := by omega
        obtain ⟨hcl, hrw, hgw⟩ := clear_tail wr gb i (ks.length - i) cap (kept g ks) hrow.out.1 (by omega) (by omega)
        have HR := Lib.hid hrw
        have HG := Lib.hid (grown_two HM.out.grown hgw)
        have hnci : ¬ cap = i := by omega
        clear hrw hgw hcb hjn'
        go_wp2_with fail
        go_ret
        have e := hrow.out.2
        exact ⟨by rw [← e]; rfl, ⟨by rw [← e]; exact HR.out, HG.out⟩⟩
  · have hk := kept_all hno
    rw [hk]
    have HN := Lib.hid hno
    clear h hb hgg hcs htk hno hk
    go_enter Try.func41, Try.ntmps41
    go_wp2_with fail
    refine (indexd_any (some ⟨gb, 0, none⟩) cap bg bf ks g (-1) _ HS.out HB.out hl (.inr ⟨HN.out, rfl⟩)).mono ?_
    rintro e w1 ⟨rfl, hb1⟩
    have HB1 := Lib.hid hb1
    clear hb1
    go_wp2_with fail
    go_ret
    exact ⟨rfl, row_keep H.out (fun q hq => HB1.out.block q (H.out.lt q hq).2), ⟨HB1.out.os, HB1.out.tape, HB1.out.output, HB1.out.size, fun q hq _ => HB1.out.block q hq⟩⟩

theorem deletef_nil (bg bf : Nat) (g : Int) (w : World) (hb : Dl w bg bf g) :
    Calls Try.prog 41 #[.slice none 0 0, .func (.func 42) #[] #[.pointer (some ⟨bf, 0, none⟩)]] w fun e w' => e = .returned (.slice none 0 0) ∧ Below w.heap.size w w' := by
  have HB := Lib.hid hb
  clear hb
  go_enter Try.func41, Try.ntmps41
  go_wp2_with fail
  refine (indexd_any none 0 bg bf [] g (-1) _ (fun h => absurd h (by simp)) HB.out (by simp) (.inr ⟨fun i hi => by simp at hi, rfl⟩)).mono ?_
  rintro e w1 ⟨rfl, hb1⟩
  have HB1 := Lib.hid hb1
  clear hb1
  go_wp2_with fail
  go_ret
  exact ⟨rfl, HB1.out⟩

end Go.Proofs.Ytjggnhcdnfmmeaa
