/- What this text holds: the document's fabric: taking a note. No condition. -/
import Derived.Test.YtkfnjpmigifomaaDoorRfA
import Derived.Test.YtkfnjpmigifomaaDoorPl5C
namespace Go.Proofs.YtkfnjpmigifomaaDoor
open Go.RowKit

theorem ofN_step {xs : List Nt} {co la : Int} {k j : Nat} (h : k < xs.length) (hy : isL co la (atN xs k) = true) :
    ofN (xs.take (k + 1)) co la = ofN (xs.take k) co la ++ [atN xs k] ∧ remK (isL co la) xs j (k + 1) = remK (isL co la) xs j k ++ (if (ofN (xs.take k) co la).length = j then [] else [atN xs k]) := by
  refine ⟨by rw [ofN_next h, hy]; rfl, ?_⟩
  rw [remK_succ, hy]
  unfold ofN
  by_cases e : ((xs.take k).filter (isL co la)).length = j <;> simp [e]
theorem ofN_skip {xs : List Nt} {co la : Int} {k j : Nat} (h : k < xs.length) (hy : isL co la (atN xs k) = false) :
    ofN (xs.take (k + 1)) co la = ofN (xs.take k) co la ∧ remK (isL co la) xs j (k + 1) = remK (isL co la) xs j k ++ [atN xs k] := by
  refine ⟨by rw [ofN_next h, hy]; simp, ?_⟩
  rw [remK_succ, hy]
  simp
theorem atN_app (l : List Nt) (y : Nt) (j : Nat) (h : l.length ≠ j) : atN (l ++ [y]) j = atN l j := by
  unfold atN
  by_cases h1 : j < l.length
  · rw [List.getElem?_append_left h1]
  · rw [List.getElem?_eq_none (by simp; omega), List.getElem?_eq_none (by omega)]
theorem atN_app_same (l : List Nt) (y : Nt) : atN (l ++ [y]) l.length = y := by simp [atN]
/-- How the document's fabric stands behind a call. -/
structure RfP (w w' : World) (p : Nat) (cores gran depth : Int) (A : Option Addr) (xs : List Nt) : Prop where
  rf : ∃ A' cap', Rf w' p cores gran depth A' cap' xs ∧ ∀ a, A' = some a → A = some a ∨ (w.heap.size ≤ a.block ∧ a.block < w'.heap.size)
  tc : Tch w w' p none
/-- One round of Take. -/
structure Rk (w wr : World) (R T co' : Nat) (P : Nt → Bool) (xs : List Nt) (co la : Int) (j k : Nat) (v : Value) : Prop where
  be : Below w.heap.size w wr
  rz : BxN wr R Nt.zero
  rt : BxN wr T (atN (ofN (xs.take k) co la) j)
  own : wr.ownsRow (T + 1) 74 9 v (remK P xs j k).length (flatN (remK P xs j k))
  lo : w.heap.size ≤ R ∧ R < T ∧ co' = (ofN (xs.take k) co la).length
section
variable {w wr w1 : World} {R T m : Nat} {xs : List Nt} {co la : Int} {j k : Nat} {v : Value}
theorem Rk.ext (h : Rk w wr R T m (isL co la) xs co la j k v) (hb : Below wr.heap.size wr w1) : Rk w w1 R T m (isL co la) xs co la j k v :=
  ⟨ext_trans h.be hb, (hb.block _ h.rz.lt).trans h.rz, (hb.block _ h.rt.lt).trans h.rt, row_keep h.own (fun g hg => hb.block g (h.own.lt g hg).2), h.lo⟩
/-- The note is taken out. -/
theorem Rk.pick (h : Rk w wr R T m (isL co la) xs co la j k v) (hk : k < xs.length) (hy : isL co la (atN xs k) = true) (hm : m = j) : Rk w (setN wr T (atN xs k)) R T (m + 1) (isL co la) xs co la j (k + 1) v := by
  obtain ⟨e1, e2⟩ := ofN_step (j := j) hk hy
  have e3 := h.lo.2.2
  rw [if_pos (by omega), List.append_nil] at e2
  refine ⟨setN_below h.be (by have := h.lo; omega), (setN_other _ _ _ _ (by have := h.lo; omega)).trans h.rz, ?_, ?_, h.lo.1, h.lo.2.1, by rw [e1]; simp; omega⟩
  · rw [e1, show j = (ofN (xs.take k) co la).length by omega, atN_app_same]
    exact setN_box h.rt _
  · rw [e2]
    exact setN_own h.own (Nat.lt_succ_self _)
/-- A note stays. -/
theorem Rk.stay (h : Rk w wr R T m (isL co la) xs co la j k v) (hk : k < xs.length) {v' : Value} (hg : wr.grownBy w1 v.ownBlock) (ho : w1.ownsRow (T + 1) 74 9 v' ((remK (isL co la) xs j k).length + 1) (flatN (remK (isL co la) xs j k) ++ (atN xs k).cells)) :
    (isL co la (atN xs k) = true → m ≠ j → Rk w w1 R T (m + 1) (isL co la) xs co la j (k + 1) v') ∧ (isL co la (atN xs k) = false → Rk w w1 R T m (isL co la) xs co la j (k + 1) v') := by
  have hlo := h.lo
  have hb : Below w.heap.size w w1 := below_grown h.be (row_mono h.own (by omega)) (Nat.le_refl _) hg
  have hR : w1.heap[R]? = wr.heap[R]? := hg.block _ h.rz.lt (fun e => by have := (h.own.lt R e.symm).1; omega)
  have hT : w1.heap[T]? = wr.heap[T]? := hg.block _ h.rt.lt (fun e => by have := (h.own.lt T e.symm).1; omega)
  refine ⟨fun hy hm => ?_, fun hy => ?_⟩
  · obtain ⟨e1, e2⟩ := ofN_step (j := j) hk hy
    rw [if_neg (by omega)] at e2
    refine ⟨hb, hR.trans h.rz, ?_, ?_, hlo.1, hlo.2.1, by rw [e1]; simp; omega⟩
    · rw [e1, atN_app _ _ _ (by omega)]
      exact hT.trans h.rt
    · rw [e2, List.length_append, flatN_app]
      simpa [flatN] using ho
  · obtain ⟨e1, e2⟩ := ofN_skip (j := j) hk hy
    refine ⟨hb, hR.trans h.rz, ?_, ?_, hlo.1, hlo.2.1, by rw [e1]; exact hlo.2.2⟩
    · rw [e1]
      exact hT.trans h.rt
    · rw [e2, List.length_append, flatN_app]
      simpa [flatN] using ho
end
section
variable {w : World} {p : Nat} {cores gran depth : Int} {A : Option Addr} {cap : Nat} {xs : List Nt}
set_option maxRecDepth 100000 in
set_option maxHeartbeats 8000000 in
theorem r5take_ok (h : Rf w p cores gran depth A cap xs) (hx : xs.length ≤ 1000) (co la which : Int) (hr : 0 ≤ co ∧ co < cores ∧ 0 ≤ la ∧ la ≤ 3) (j : Nat) (hj : j < (ofN xs co la).length)
    (hw : (Int.tmod which (ofN xs co la).length < 0 ∧ Int.tmod which (ofN xs co la).length + (ofN xs co la).length = j) ∨ (0 ≤ Int.tmod which (ofN xs co la).length ∧ Int.tmod which (ofN xs co la).length = j)) :
    Calls Tryd.prog 81 #[.pointer (some ⟨p, 0, none⟩), .int .i64 co, .int .i64 la, .int .i64 which] w fun e w' => e = .returned (.tuple #[(atN (ofN xs co la) j).val, .int .i64 0]) ∧ RfP w w' p cores gran depth A (remN xs co la j) := by
  obtain ⟨c0, c1, c2, c3, pl⟩ := h.cells
  have H := Lib.hid h
  have HX := Lib.hid hx
  have HOF := Lib.hid (fun (W : World) (hb : Below w.heap.size w W) => rof_any (h.ext hb) hx co la)
  obtain ⟨i0, hi, hz0, hz1, hz2⟩ := info_parts info_note
  have e1 : decide (co < 0) = false := by simp; omega
  have e2 : decide (co ≥ cores) = false := by simp; omega
  have e3 : decide (cores ≤ co) = false := by simp; omega
  have e4 : decide (la < 0) = false := by simp; omega
  have e5 : decide (la > 3) = false := by simp; omega
  have e6 : decide (3 < la) = false := by simp; omega
  obtain ⟨q, hq⟩ : ∃ q, q = (ofN xs co la).length := ⟨_, rfl⟩
  have hq1 : q ≤ 1000 := by have := ofN_len xs xs.length co la; rw [List.take_length] at this; omega
  rw [← hq] at hj hw
  have hlo : -(q : Int) < Int.tmod which q := Int.lt_tmod_of_pos which (by omega)
  have hhi : Int.tmod which q < q := Int.tmod_lt_of_pos which (by omega)
  have e7 : ((q : Int) == 0) = false := by simp; omega
  have HQ := Lib.hid hq
  have HJ := Lib.hid hj
  have hq0 : (q : Int) ≠ 0 := by omega
  clear h hx hr hq hj
  rcases hw with ⟨h1, h2⟩ | ⟨h1, h2⟩
  · have HW := Lib.hid h2
    clear h2
    go_enter Tryd.func81, Tryd.ntmps81
    go_wp2_with fail
    have hbz := heap_alloc_new w (.cells #[.int .i64 0, .int .i64 0, .int .i64 0, .int .i64 0, .int .i64 0, .int .i64 0, .int .i64 0, .bool false, .int .i64 0] 74)
    refine (HOF.out _ (by repeat (with_reducible first | exact Below.refl _ _ | assumption | (refine ext_next (by assumption) ?_) | apply ext_alloc | apply ext_past | apply ext_drew | apply ext_drewN))).mono ?_
    rintro e w1 ⟨v, rfl, hv, hb⟩
    obtain ⟨A1, cap1, rfl, -, -, -, -⟩ := rowN_val hv
    rw [← HQ.out]
    have hx1 := (hb.block w.heap.size (by simp)).trans hbz
    have HB : Hid (Below w.heap.size w w1) := Lib.hid (ext_next hb (by repeat (with_reducible first | exact Below.refl _ _ | assumption | (refine ext_next (by assumption) ?_) | apply ext_alloc | apply ext_past | apply ext_drew | apply ext_drewN)))
    have HRZ : Hid (BxN w1 w.heap.size Nt.zero) := Lib.hid (by simpa [BxN, Nt.zero] using hx1)
    clear hv hb hx1 hbz c0 c1 c2 c3
    go_wp2_with fail
    rw [HW.out]
    clear h1 hlo hhi hq0
    obtain ⟨W1, hW1⟩ : ∃ W, W = w1.alloc (.cells #[.int .i64 0, .int .i64 0, .int .i64 0, .int .i64 0, .int .i64 0, .int .i64 0, .int .i64 0, .bool false, .int .i64 0] 74) := ⟨_, rfl⟩
    obtain ⟨T, hT⟩ : ∃ T, T = w1.heap.size := ⟨_, rfl⟩
    have HR0 : Hid (Rk w W1 w.heap.size T 0 (isL co la) xs co la j 0 (.slice none 0 0)) := Lib.hid (by
      have hRT := HRZ.out.lt
      refine ⟨by rw [hW1]; exact ext_alloc _ HB.out, by rw [hW1]; exact alOld HRZ.out, ?_, World.ownsRow_nil _ _ _ _, ⟨Nat.le_refl _, by omega, rfl⟩⟩
      rw [hW1, hT]
      exact alNew rfl)
    rw [← hW1, ← hT]
    clear hW1 hT HB HRZ HW
    go_loopg [13, 14, 15, 16] xs.length (fun gk s13 s14 s15 s16 wr => ∃ k m : Nat, k + gk = xs.length ∧ s15 = .int .i64 k ∧ s14 = .int .i64 m ∧ Hid (Rk w wr w.heap.size T m (isL co la) xs co la j k s13))
    case atStart => exact ⟨0, 0, by omega, rfl, rfl, HR0⟩
    case round =>
      clear HR0
      obtain ⟨k, m, hk, rfl, rfl, HRK⟩ := hrel
      have hf := H.out.ext HRK.out.be
      obtain ⟨c0, c1, c2, c3, plr⟩ := hf.cells
      have hml : m ≤ xs.length := by have := HRK.out.lo.2.2; have := ofN_len xs k co la; omega
      have hrl : (remK (isL co la) xs j k).length ≤ k := remK_len k
      by_cases hkl : k < xs.length
      · have ek : decide ((k : Int) < (xs.length : Int)) = true := by simp; omega
        have ek2 : decide (k < xs.length) = true := by simpa using hkl
        have hki : (k : Int) < (xs.length : Int) := by omega
        obtain ⟨b, off, rfl, hbl, hcs⟩ := hf.sl (by omega)
        have hbr : b < wr.heap.size := hbl
        obtain ⟨y, hy⟩ : ∃ y, y = atN xs k := ⟨_, rfl⟩
        have hcs1 : ∀ jj u, y.cells[jj]? = some u → wr.cell? ⟨b, off + k * 9 + jj, none⟩ = some u := fun jj u hu => hcs k hkl jj u (hy ▸ hu)
        obtain ⟨yk, yc, yl, yw, ys, ya, yb, yd, yn⟩ := y
        have HML : Hid ((remK (isL co la) xs j k).length ≤ 1000 ∧ m ≤ 1000) := Lib.hid (by have := HX.out; omega)
        have hm1 : m ≤ 1000 := HML.out.2
        have hk1 : k < 1000 := by have := HX.out; omega
        have HY := Lib.hid hy
        have HKK := Lib.hid (And.intro hk hkl)
        have HCS := Lib.hid hcs1
        obtain ⟨o, ho⟩ : ∃ o, o = atN (ofN (xs.take k) co la) j := ⟨_, rfl⟩
        have hrt := HRK.out.rt
        rw [← ho] at hrt
        have HRT := Lib.hid hrt
        have hTl := hrt.lt
        have htf := hrt.free
        obtain ⟨t0, t1, t2, t3, t4, t5, t6, t7, t8⟩ := hrt.cell
        have x0 : wr.cell? ⟨b, off + k * 9, none⟩ = _ := hcs1 0 _ rfl
        have x1  := hcs1 1 _ rfl
        have x2  := hcs1 2 _ rfl
        have x3  := hcs1 3 _ rfl
        have x4  := hcs1 4 _ rfl
        have x5  := hcs1 5 _ rfl
        have x6  := hcs1 6 _ rfl
        have x7  := hcs1 7 _ rfl
        have x8  := hcs1 8 _ rfl
        clear hcs hcs1 hf hk hy hbl hml hrl ho hrt
        by_cases hc : yc = co
        · subst yc
          clear t0 t1 t2 t3 t4 t5 t6 t7 t8 htf
          go_wp2_with fail
          refine (rlane_any yk wr).mono ?_
          rintro e w4 ⟨rfl, hb1⟩
          have HRK1 := Lib.hid (HRK.out.ext hb1)
          have hbr4 : b < w4.heap.size := Nat.lt_of_lt_of_le hbr hb1.size
          have hcs1 : ∀ jj u, (⟨yk, co, yl, yw, ys, ya, yb, yd, yn⟩ : Nt).cells[jj]? = some u → w4.cell? ⟨b, off + k * 9 + jj, none⟩ = some u := fun jj u hu => (hb1.cell (p := ⟨b, off + k * 9 + jj, none⟩) hbr).trans (HCS.out jj u hu)
          clear x0 x1 x2 x3 x4 x5 x6 x7 x8 c0 c1 c2 c3 plr
          obtain ⟨c0, c1, c2, c3, plr⟩ := (H.out.ext HRK1.out.be).cells
          have x0 : w4.cell? ⟨b, off + k * 9, none⟩ = _ := hcs1 0 _ rfl
          have x1  := hcs1 1 _ rfl
          have x2  := hcs1 2 _ rfl
          have x3  := hcs1 3 _ rfl
          have x4  := hcs1 4 _ rfl
          have x5  := hcs1 5 _ rfl
          have x6  := hcs1 6 _ rfl
          have x7  := hcs1 7 _ rfl
          have x8  := hcs1 8 _ rfl
          have hrt := (show w4.heap[T]? = wr.heap[T]? from hb1.block _ hTl).trans HRT.out
          have hT4 : T < w4.heap.size := Nat.lt_of_lt_of_le hTl hb1.size
          have htf := BxN.free hrt
          obtain ⟨t0, t1, t2, t3, t4, t5, t6, t7, t8⟩ := BxN.cell hrt
          clear hcs1 hb1 hrt hbr hTl HRT
          by_cases hl : laneR yk = la
          · have el : (laneR yk == la) = true := by simpa using hl
            have HP : Hid (isL co la (atN xs k) = true) := Lib.hid (by rw [← HY.out]; unfold isL; dsimp only; rw [el]; simp)
            by_cases hm : m = j
            · have em : ((m : Int) == (j : Int)) = true := by simp; omega
              have HM := Lib.hid hm
              clear hl hm
              go_wp2_with fail
              go_roundg (xs.length - (k + 1))
              case measure => have := HKK.out; omega
              case rel => exact ⟨k + 1, m + 1, by have := HKK.out; omega, by go_num, by go_num, Lib.hid (by have := HRK1.out.pick HKK.out.2 HP.out HM.out; rw [← HY.out] at this; exact this)⟩
            · have em : ((m : Int) == (j : Int)) = false := by simp; omega
              have HM := Lib.hid hm
              clear hl hm t0 t1 t2 t3 t4 t5 t6 t7 t8
              go_wp2_with (at_builtin; refine wpList_append_own _ rfl _ _ 69 rfl (T + 1) 74 i0 Nt.zero.val 9 72 Tryd.underlying69 hi hz0 hz1 hz2 rfl (by decide) _ _ _ rfl (HRK1.out.own.alloc _) ⟨w4.heap.size, 0, none⟩ 1 1 (⟨yk, co, yl, yw, ys, ya, yb, yd, yn⟩ : Nt).cells rfl rfl ?c1 ?c2 ?c3 ?c4 ?c5 ?_)
              case c1 => first | exact nine_at w4 ⟨yk, co, yl, yw, ys, ya, yb, yd, yn⟩ 74 _ rfl | exact fun _ _ h => h
              case c2 => exact cells_one _
              case c3 => have := HML.out.1; unfold maxLen; omega
              case c4 => have := HML.out.1; omega
              case c5 => have := HML.out.1; simp; omega
              intro v' w2 hown hgrow _
              have HST := Lib.hid ((HRK1.out.ext (ext_alloc (.cells #[.int .i64 yk, .int .i64 co, .int .i64 yl, .int .i64 yw, .int .i64 ys, .int .i64 ya, .int .i64 yb, .bool yd, .int .i64 yn] 74) (Below.refl _ _))).stay HKK.out.2 hgrow (by rw [← HY.out]; exact hown))
              clear hown hgrow
              go_wp2_with fail
              go_roundg (xs.length - (k + 1))
              case measure => have := HKK.out; omega
              case rel => exact ⟨k + 1, m + 1, by have := HKK.out; omega, by go_num, by go_num, Lib.hid (HST.out.1 HP.out HM.out)⟩
          · have el : (laneR yk == la) = false := by simpa using hl
            have HP : Hid (isL co la (atN xs k) = false) := Lib.hid (by rw [← HY.out]; unfold isL; dsimp only; rw [el]; simp)
            clear hl t0 t1 t2 t3 t4 t5 t6 t7 t8
            go_wp2_with (at_builtin; refine wpList_append_own _ rfl _ _ 69 rfl (T + 1) 74 i0 Nt.zero.val 9 72 Tryd.underlying69 hi hz0 hz1 hz2 rfl (by decide) _ _ _ rfl (HRK1.out.own.alloc _) ⟨w4.heap.size, 0, none⟩ 1 1 (⟨yk, co, yl, yw, ys, ya, yb, yd, yn⟩ : Nt).cells rfl rfl ?c1 ?c2 ?c3 ?c4 ?c5 ?_)
            case c1 => first | exact nine_at w4 ⟨yk, co, yl, yw, ys, ya, yb, yd, yn⟩ 74 _ rfl | exact fun _ _ h => h
            case c2 => exact cells_one _
            case c3 => have := HML.out.1; unfold maxLen; omega
            case c4 => have := HML.out.1; omega
            case c5 => have := HML.out.1; simp; omega
            intro v' w2 hown hgrow _
            have HST := Lib.hid ((HRK1.out.ext (ext_alloc (.cells #[.int .i64 yk, .int .i64 co, .int .i64 yl, .int .i64 yw, .int .i64 ys, .int .i64 ya, .int .i64 yb, .bool yd, .int .i64 yn] 74) (Below.refl _ _))).stay HKK.out.2 hgrow (by rw [← HY.out]; exact hown))
            clear hown hgrow
            go_wp2_with fail
            go_roundg (xs.length - (k + 1))
            case measure => have := HKK.out; omega
            case rel => exact ⟨k + 1, m, by have := HKK.out; omega, by go_num, rfl, Lib.hid (HST.out.2 HP.out)⟩
        · have ec : (yc == co) = false := by simpa using hc
          have HP : Hid (isL co la (atN xs k) = false) := Lib.hid (by rw [← HY.out]; unfold isL; dsimp only; rw [ec]; simp)
          clear hc t0 t1 t2 t3 t4 t5 t6 t7 t8
          go_wp2_with (at_builtin; refine wpList_append_own _ rfl _ _ 69 rfl (T + 1) 74 i0 Nt.zero.val 9 72 Tryd.underlying69 hi hz0 hz1 hz2 rfl (by decide) _ _ _ rfl (HRK.out.own.alloc _) ⟨wr.heap.size, 0, none⟩ 1 1 (⟨yk, yc, yl, yw, ys, ya, yb, yd, yn⟩ : Nt).cells rfl rfl ?c1 ?c2 ?c3 ?c4 ?c5 ?_)
          case c1 => first | exact nine_at wr ⟨yk, yc, yl, yw, ys, ya, yb, yd, yn⟩ 74 _ rfl | exact fun _ _ h => h
          case c2 => exact cells_one _
          case c3 => have := HML.out.1; unfold maxLen; omega
          case c4 => have := HML.out.1; omega
          case c5 => have := HML.out.1; simp; omega
          intro v' w2 hown hgrow _
          have HST := Lib.hid ((HRK.out.ext (ext_alloc (.cells #[.int .i64 yk, .int .i64 yc, .int .i64 yl, .int .i64 yw, .int .i64 ys, .int .i64 ya, .int .i64 yb, .bool yd, .int .i64 yn] 74) (Below.refl _ _))).stay HKK.out.2 hgrow (by rw [← HY.out]; exact hown))
          clear hown hgrow
          go_wp2_with fail
          go_roundg (xs.length - (k + 1))
          case measure => have := HKK.out; omega
          case rel => exact ⟨k + 1, m, by have := HKK.out; omega, by go_num, rfl, Lib.hid (HST.out.2 HP.out)⟩
      · have ek : decide ((k : Int) < (xs.length : Int)) = false := by simp; omega
        have ek2 : decide (k < xs.length) = false := by simpa using hkl
        have hkx : k = xs.length := by omega
        obtain ⟨y, hy⟩ : ∃ y, y = atN (ofN xs co la) j := ⟨_, rfl⟩
        have ht : BxN wr T y := by have := HRK.out.rt; rw [hkx, List.take_length] at this; rw [hy]; exact this
        have ho : wr.ownsRow (T + 1) 74 9 u13 (remN xs co la j).length (flatN (remN xs co la j)) := by
          have := HRK.out.own
          rw [hkx] at this
          exact this
        obtain ⟨A2, k2, rfl, hs2, -, hn2, hg2⟩ := rowN_val ho
        obtain ⟨t0, t1, t2, t3, t4, t5, t6, t7, t8⟩ := ht.cell
        obtain ⟨z0, z1, z2, z3, z4, z5, z6, z7, z8⟩ := HRK.out.rz.cell
        have zf := HRK.out.rz.free
        have zl := HRK.out.rz.lt
        have tl := ht.lt
        have hlo := HRK.out.lo
        have cf : ∀ i, wr.frozen? ⟨p, i, none⟩ = false := fun i => by simp [World.frozen?, hf.bx]
        have hpz : p ≠ w.heap.size := by omega
        have hpt : p ≠ T := by omega
        have HE := Lib.hid (And.intro ho (And.intro hs2 (And.intro hn2 hg2)))
        have HY := Lib.hid hy
        have HF := Lib.hid hf
        clear ho ht hkx hk hy hs2 hn2 hg2 hf hkl hml hrl hlo
        go_wp2_with fail
        change bodyPost _ _ _ _ _ (setN (wr.setCell ⟨p, 3, none⟩ (.slice A2 (remN xs co la j).length k2)) w.heap.size y)
        obtain ⟨W9, hW9⟩ : ∃ W9, W9 = setN (wr.setCell ⟨p, 3, none⟩ (.slice A2 (remN xs co la j).length k2)) w.heap.size y := ⟨_, rfl⟩
        rw [← hW9]
        have hZ1 : BxN (wr.setCell ⟨p, 3, none⟩ (.slice A2 (remN xs co la j).length k2)) w.heap.size Nt.zero := (Below.heap_setCell _ _ _ _ (by simp; omega)).trans HRK.out.rz
        have hF : BxN W9 w.heap.size y := by rw [hW9]; exact setN_box hZ1 y
        obtain ⟨g0, g1, g2, g3, g4, g5, g6, g7, g8⟩ := hF.cell
        have hkp : ∀ q, q ≠ w.heap.size → q ≠ p → W9.heap[q]? = wr.heap[q]? := fun q h1 h2 => by
          rw [hW9, setN_other _ _ _ _ h1]
          exact Below.heap_setCell _ _ _ _ (by simpa using h2)
        have hpp : W9.heap[p]? = (wr.setCell ⟨p, 3, none⟩ (.slice A2 (remN xs co la j).length k2)).heap[p]? := by rw [hW9, setN_other _ _ _ _ hpz]
        have hs9 : W9.heap.size = wr.heap.size := by rw [hW9, setN_size]; simp
        have hsm : W9.os = wr.os ∧ W9.tape = wr.tape ∧ W9.output = wr.output := by rw [hW9]; exact setN_same _ _ _
        have hsz := HRK.out.be.size
        refine bodyPost_ret (v := .tuple #[y.val, .int .i64 0]) (by unfold Nt.val; simp [results, Tryd.results81, go_sem, g0, g1, g2, g3, g4, g5, g6, g7, g8]; try rfl) rfl ?_
        obtain ⟨ho, hs2, hn2, hg2⟩ := HE.out
        have hgl : ∀ a, A2 = some a → T + 1 ≤ a.block ∧ a.block < wr.heap.size := fun a e => by
          obtain ⟨g, rfl⟩ := hg2 a e
          subst e
          exact ho.lt g rfl
        have hlo := HRK.out.lo
        refine ⟨by rw [HY.out], ⟨A2, k2, ⟨?_, ?_, fun a e => by have := hgl a e; omega, hn2⟩, fun a e => .inr ⟨by have := hgl a e; omega, by have := hgl a e; omega⟩⟩, ⟨hsm.1.trans HRK.out.be.os, hsm.2.1.trans HRK.out.be.tape, hsm.2.2.trans HRK.out.be.output, by omega, fun q h1 h2 _ => (hkp q (by omega) h2).trans (HRK.out.be.block q h1)⟩⟩
        · rw [hpp, Joins.block_setCell (i := 3) HF.out.bx _]
          simp
        · exact hs2.of_block (by omega) (fun a e => hkp _ (by have := hgl a e; omega) (by have := hgl a e; omega))
  · have HW := Lib.hid h2
    clear h2
    go_enter Tryd.func81, Tryd.ntmps81
    go_wp2_with fail
    have hbz := heap_alloc_new w (.cells #[.int .i64 0, .int .i64 0, .int .i64 0, .int .i64 0, .int .i64 0, .int .i64 0, .int .i64 0, .bool false, .int .i64 0] 74)
    refine (HOF.out _ (by repeat (with_reducible first | exact Below.refl _ _ | assumption | (refine ext_next (by assumption) ?_) | apply ext_alloc | apply ext_past | apply ext_drew | apply ext_drewN))).mono ?_
    rintro e w1 ⟨v, rfl, hv, hb⟩
    obtain ⟨A1, cap1, rfl, -, -, -, -⟩ := rowN_val hv
    rw [← HQ.out]
    have hx1 := (hb.block w.heap.size (by simp)).trans hbz
    have HB : Hid (Below w.heap.size w w1) := Lib.hid (ext_next hb (by repeat (with_reducible first | exact Below.refl _ _ | assumption | (refine ext_next (by assumption) ?_) | apply ext_alloc | apply ext_past | apply ext_drew | apply ext_drewN)))
    have HRZ : Hid (BxN w1 w.heap.size Nt.zero) := Lib.hid (by simpa [BxN, Nt.zero] using hx1)
    clear hv hb hx1 hbz c0 c1 c2 c3
    go_wp2_with fail
    rw [HW.out]
    clear h1 hlo hhi hq0
    obtain ⟨W1, hW1⟩ : ∃ W, W = w1.alloc (.cells #[.int .i64 0, .int .i64 0, .int .i64 0, .int .i64 0, .int .i64 0, .int .i64 0, .int .i64 0, .bool false, .int .i64 0] 74) := ⟨_, rfl⟩
    obtain ⟨T, hT⟩ : ∃ T, T = w1.heap.size := ⟨_, rfl⟩
    have HR0 : Hid (Rk w W1 w.heap.size T 0 (isL co la) xs co la j 0 (.slice none 0 0)) := Lib.hid (by
      have hRT := HRZ.out.lt
      refine ⟨by rw [hW1]; exact ext_alloc _ HB.out, by rw [hW1]; exact alOld HRZ.out, ?_, World.ownsRow_nil _ _ _ _, ⟨Nat.le_refl _, by omega, rfl⟩⟩
      rw [hW1, hT]
      exact alNew rfl)
    rw [← hW1, ← hT]
    clear hW1 hT HB HRZ HW
    go_loopg [13, 14, 15, 16] xs.length (fun gk s13 s14 s15 s16 wr => ∃ k m : Nat, k + gk = xs.length ∧ s15 = .int .i64 k ∧ s14 = .int .i64 m ∧ Hid (Rk w wr w.heap.size T m (isL co la) xs co la j k s13))
    case atStart => exact ⟨0, 0, by omega, rfl, rfl, HR0⟩
    case round =>
      clear HR0
      obtain ⟨k, m, hk, rfl, rfl, HRK⟩ := hrel
      have hf := H.out.ext HRK.out.be
      obtain ⟨c0, c1, c2, c3, plr⟩ := hf.cells
      have hml : m ≤ xs.length := by have := HRK.out.lo.2.2; have := ofN_len xs k co la; omega
      have hrl : (remK (isL co la) xs j k).length ≤ k := remK_len k
      by_cases hkl : k < xs.length
      · have ek : decide ((k : Int) < (xs.length : Int)) = true := by simp; omega
        have ek2 : decide (k < xs.length) = true := by simpa using hkl
        have hki : (k : Int) < (xs.length : Int) := by omega
        obtain ⟨b, off, rfl, hbl, hcs⟩ := hf.sl (by omega)
        have hbr : b < wr.heap.size := hbl
        obtain ⟨y, hy⟩ : ∃ y, y = atN xs k := ⟨_, rfl⟩
        have hcs1 : ∀ jj u, y.cells[jj]? = some u → wr.cell? ⟨b, off + k * 9 + jj, none⟩ = some u := fun jj u hu => hcs k hkl jj u (hy ▸ hu)
        obtain ⟨yk, yc, yl, yw, ys, ya, yb, yd, yn⟩ := y
        have HML : Hid ((remK (isL co la) xs j k).length ≤ 1000 ∧ m ≤ 1000) := Lib.hid (by have := HX.out; omega)
        have hm1 : m ≤ 1000 := HML.out.2
        have hk1 : k < 1000 := by have := HX.out; omega
        have HY := Lib.hid hy
        have HKK := Lib.hid (And.intro hk hkl)
        have HCS := Lib.hid hcs1
        obtain ⟨o, ho⟩ : ∃ o, o = atN (ofN (xs.take k) co la) j := ⟨_, rfl⟩
        have hrt := HRK.out.rt
        rw [← ho] at hrt
        have HRT := Lib.hid hrt
        have hTl := hrt.lt
        have htf := hrt.free
        obtain ⟨t0, t1, t2, t3, t4, t5, t6, t7, t8⟩ := hrt.cell
        have x0 : wr.cell? ⟨b, off + k * 9, none⟩ = _ := hcs1 0 _ rfl
        have x1  := hcs1 1 _ rfl
        have x2  := hcs1 2 _ rfl
        have x3  := hcs1 3 _ rfl
        have x4  := hcs1 4 _ rfl
        have x5  := hcs1 5 _ rfl
        have x6  := hcs1 6 _ rfl
        have x7  := hcs1 7 _ rfl
        have x8  := hcs1 8 _ rfl
        clear hcs hcs1 hf hk hy hbl hml hrl ho hrt
        by_cases hc : yc = co
        · subst yc
          clear t0 t1 t2 t3 t4 t5 t6 t7 t8 htf
          go_wp2_with fail
          refine (rlane_any yk wr).mono ?_
          rintro e w4 ⟨rfl, hb1⟩
          have HRK1 := Lib.hid (HRK.out.ext hb1)
          have hbr4 : b < w4.heap.size := Nat.lt_of_lt_of_le hbr hb1.size
          have hcs1 : ∀ jj u, (⟨yk, co, yl, yw, ys, ya, yb, yd, yn⟩ : Nt).cells[jj]? = some u → w4.cell? ⟨b, off + k * 9 + jj, none⟩ = some u := fun jj u hu => (hb1.cell (p := ⟨b, off + k * 9 + jj, none⟩) hbr).trans (HCS.out jj u hu)
          clear x0 x1 x2 x3 x4 x5 x6 x7 x8 c0 c1 c2 c3 plr
          obtain ⟨c0, c1, c2, c3, plr⟩ := (H.out.ext HRK1.out.be).cells
          have x0 : w4.cell? ⟨b, off + k * 9, none⟩ = _ := hcs1 0 _ rfl
          have x1  := hcs1 1 _ rfl
          have x2  := hcs1 2 _ rfl
          have x3  := hcs1 3 _ rfl
          have x4  := hcs1 4 _ rfl
          have x5  := hcs1 5 _ rfl
          have x6  := hcs1 6 _ rfl
          have x7  := hcs1 7 _ rfl
          have x8  := hcs1 8 _ rfl
          have hrt := (show w4.heap[T]? = wr.heap[T]? from hb1.block _ hTl).trans HRT.out
          have hT4 : T < w4.heap.size := Nat.lt_of_lt_of_le hTl hb1.size
          have htf := BxN.free hrt
          obtain ⟨t0, t1, t2, t3, t4, t5, t6, t7, t8⟩ := BxN.cell hrt
          clear hcs1 hb1 hrt hbr hTl HRT
          by_cases hl : laneR yk = la
          · have el : (laneR yk == la) = true := by simpa using hl
            have HP : Hid (isL co la (atN xs k) = true) := Lib.hid (by rw [← HY.out]; unfold isL; dsimp only; rw [el]; simp)
            by_cases hm : m = j
            · have em : ((m : Int) == (j : Int)) = true := by simp; omega
              have HM := Lib.hid hm
              clear hl hm
              go_wp2_with fail
              go_roundg (xs.length - (k + 1))
              case measure => have := HKK.out; omega
              case rel => exact ⟨k + 1, m + 1, by have := HKK.out; omega, by go_num, by go_num, Lib.hid (by have := HRK1.out.pick HKK.out.2 HP.out HM.out; rw [← HY.out] at this; exact this)⟩
            · have em : ((m : Int) == (j : Int)) = false := by simp; omega
              have HM := Lib.hid hm
              clear hl hm t0 t1 t2 t3 t4 t5 t6 t7 t8
              go_wp2_with (at_builtin; refine wpList_append_own _ rfl _ _ 69 rfl (T + 1) 74 i0 Nt.zero.val 9 72 Tryd.underlying69 hi hz0 hz1 hz2 rfl (by decide) _ _ _ rfl (HRK1.out.own.alloc _) ⟨w4.heap.size, 0, none⟩ 1 1 (⟨yk, co, yl, yw, ys, ya, yb, yd, yn⟩ : Nt).cells rfl rfl ?c1 ?c2 ?c3 ?c4 ?c5 ?_)
              case c1 => first | exact nine_at w4 ⟨yk, co, yl, yw, ys, ya, yb, yd, yn⟩ 74 _ rfl | exact fun _ _ h => h
              case c2 => exact cells_one _
              case c3 => have := HML.out.1; unfold maxLen; omega
              case c4 => have := HML.out.1; omega
              case c5 => have := HML.out.1; simp; omega
              intro v' w2 hown hgrow _
              have HST := Lib.hid ((HRK1.out.ext (ext_alloc (.cells #[.int .i64 yk, .int .i64 co, .int .i64 yl, .int .i64 yw, .int .i64 ys, .int .i64 ya, .int .i64 yb, .bool yd, .int .i64 yn] 74) (Below.refl _ _))).stay HKK.out.2 hgrow (by rw [← HY.out]; exact hown))
              clear hown hgrow
              go_wp2_with fail
              go_roundg (xs.length - (k + 1))
              case measure => have := HKK.out; omega
              case rel => exact ⟨k + 1, m + 1, by have := HKK.out; omega, by go_num, by go_num, Lib.hid (HST.out.1 HP.out HM.out)⟩
          · have el : (laneR yk == la) = false := by simpa using hl
            have HP : Hid (isL co la (atN xs k) = false) := Lib.hid (by rw [← HY.out]; unfold isL; dsimp only; rw [el]; simp)
            clear hl t0 t1 t2 t3 t4 t5 t6 t7 t8
            go_wp2_with (at_builtin; refine wpList_append_own _ rfl _ _ 69 rfl (T + 1) 74 i0 Nt.zero.val 9 72 Tryd.underlying69 hi hz0 hz1 hz2 rfl (by decide) _ _ _ rfl (HRK1.out.own.alloc _) ⟨w4.heap.size, 0, none⟩ 1 1 (⟨yk, co, yl, yw, ys, ya, yb, yd, yn⟩ : Nt).cells rfl rfl ?c1 ?c2 ?c3 ?c4 ?c5 ?_)
            case c1 => first | exact nine_at w4 ⟨yk, co, yl, yw, ys, ya, yb, yd, yn⟩ 74 _ rfl | exact fun _ _ h => h
            case c2 => exact cells_one _
            case c3 => have := HML.out.1; unfold maxLen; omega
            case c4 => have := HML.out.1; omega
            case c5 => have := HML.out.1; simp; omega
            intro v' w2 hown hgrow _
            have HST := Lib.hid ((HRK1.out.ext (ext_alloc (.cells #[.int .i64 yk, .int .i64 co, .int .i64 yl, .int .i64 yw, .int .i64 ys, .int .i64 ya, .int .i64 yb, .bool yd, .int .i64 yn] 74) (Below.refl _ _))).stay HKK.out.2 hgrow (by rw [← HY.out]; exact hown))
            clear hown hgrow
            go_wp2_with fail
            go_roundg (xs.length - (k + 1))
            case measure => have := HKK.out; omega
            case rel => exact ⟨k + 1, m, by have := HKK.out; omega, by go_num, rfl, Lib.hid (HST.out.2 HP.out)⟩
        · have ec : (yc == co) = false := by simpa using hc
          have HP : Hid (isL co la (atN xs k) = false) := Lib.hid (by rw [← HY.out]; unfold isL; dsimp only; rw [ec]; simp)
          clear hc t0 t1 t2 t3 t4 t5 t6 t7 t8
          go_wp2_with (at_builtin; refine wpList_append_own _ rfl _ _ 69 rfl (T + 1) 74 i0 Nt.zero.val 9 72 Tryd.underlying69 hi hz0 hz1 hz2 rfl (by decide) _ _ _ rfl (HRK.out.own.alloc _) ⟨wr.heap.size, 0, none⟩ 1 1 (⟨yk, yc, yl, yw, ys, ya, yb, yd, yn⟩ : Nt).cells rfl rfl ?c1 ?c2 ?c3 ?c4 ?c5 ?_)
          case c1 => first | exact nine_at wr ⟨yk, yc, yl, yw, ys, ya, yb, yd, yn⟩ 74 _ rfl | exact fun _ _ h => h
          case c2 => exact cells_one _
          case c3 => have := HML.out.1; unfold maxLen; omega
          case c4 => have := HML.out.1; omega
          case c5 => have := HML.out.1; simp; omega
          intro v' w2 hown hgrow _
          have HST := Lib.hid ((HRK.out.ext (ext_alloc (.cells #[.int .i64 yk, .int .i64 yc, .int .i64 yl, .int .i64 yw, .int .i64 ys, .int .i64 ya, .int .i64 yb, .bool yd, .int .i64 yn] 74) (Below.refl _ _))).stay HKK.out.2 hgrow (by rw [← HY.out]; exact hown))
          clear hown hgrow
          go_wp2_with fail
          go_roundg (xs.length - (k + 1))
          case measure => have := HKK.out; omega
          case rel => exact ⟨k + 1, m, by have := HKK.out; omega, by go_num, rfl, Lib.hid (HST.out.2 HP.out)⟩
      · have ek : decide ((k : Int) < (xs.length : Int)) = false := by simp; omega
        have ek2 : decide (k < xs.length) = false := by simpa using hkl
        have hkx : k = xs.length := by omega
        obtain ⟨y, hy⟩ : ∃ y, y = atN (ofN xs co la) j := ⟨_, rfl⟩
        have ht : BxN wr T y := by have := HRK.out.rt; rw [hkx, List.take_length] at this; rw [hy]; exact this
        have ho : wr.ownsRow (T + 1) 74 9 u13 (remN xs co la j).length (flatN (remN xs co la j)) := by
          have := HRK.out.own
          rw [hkx] at this
          exact this
        obtain ⟨A2, k2, rfl, hs2, -, hn2, hg2⟩ := rowN_val ho
        obtain ⟨t0, t1, t2, t3, t4, t5, t6, t7, t8⟩ := ht.cell
        obtain ⟨z0, z1, z2, z3, z4, z5, z6, z7, z8⟩ := HRK.out.rz.cell
        have zf := HRK.out.rz.free
        have zl := HRK.out.rz.lt
        have tl := ht.lt
        have hlo := HRK.out.lo
        have cf : ∀ i, wr.frozen? ⟨p, i, none⟩ = false := fun i => by simp [World.frozen?, hf.bx]
        have hpz : p ≠ w.heap.size := by omega
        have hpt : p ≠ T := by omega
        have HE := Lib.hid (And.intro ho (And.intro hs2 (And.intro hn2 hg2)))
        have HY := Lib.hid hy
        have HF := Lib.hid hf
        clear ho ht hkx hk hy hs2 hn2 hg2 hf hkl hml hrl hlo
        go_wp2_with fail
        change bodyPost _ _ _ _ _ (setN (wr.setCell ⟨p, 3, none⟩ (.slice A2 (remN xs co la j).length k2)) w.heap.size y)
        obtain ⟨W9, hW9⟩ : ∃ W9, W9 = setN (wr.setCell ⟨p, 3, none⟩ (.slice A2 (remN xs co la j).length k2)) w.heap.size y := ⟨_, rfl⟩
        rw [← hW9]
        have hZ1 : BxN (wr.setCell ⟨p, 3, none⟩ (.slice A2 (remN xs co la j).length k2)) w.heap.size Nt.zero := (Below.heap_setCell _ _ _ _ (by simp; omega)).trans HRK.out.rz
        have hF : BxN W9 w.heap.size y := by rw [hW9]; exact setN_box hZ1 y
        obtain ⟨g0, g1, g2, g3, g4, g5, g6, g7, g8⟩ := hF.cell
        have hkp : ∀ q, q ≠ w.heap.size → q ≠ p → W9.heap[q]? = wr.heap[q]? := fun q h1 h2 => by
          rw [hW9, setN_other _ _ _ _ h1]
          exact Below.heap_setCell _ _ _ _ (by simpa using h2)
        have hpp : W9.heap[p]? = (wr.setCell ⟨p, 3, none⟩ (.slice A2 (remN xs co la j).length k2)).heap[p]? := by rw [hW9, setN_other _ _ _ _ hpz]
        have hs9 : W9.heap.size = wr.heap.size := by rw [hW9, setN_size]; simp
        have hsm : W9.os = wr.os ∧ W9.tape = wr.tape ∧ W9.output = wr.output := by rw [hW9]; exact setN_same _ _ _
        have hsz := HRK.out.be.size
        refine bodyPost_ret (v := .tuple #[y.val, .int .i64 0]) (by unfold Nt.val; simp [results, Tryd.results81, go_sem, g0, g1, g2, g3, g4, g5, g6, g7, g8]; try rfl) rfl ?_
        obtain ⟨ho, hs2, hn2, hg2⟩ := HE.out
        have hgl : ∀ a, A2 = some a → T + 1 ≤ a.block ∧ a.block < wr.heap.size := fun a e => by
          obtain ⟨g, rfl⟩ := hg2 a e
          subst e
          exact ho.lt g rfl
        have hlo := HRK.out.lo
        refine ⟨by rw [HY.out], ⟨A2, k2, ⟨?_, ?_, fun a e => by have := hgl a e; omega, hn2⟩, fun a e => .inr ⟨by have := hgl a e; omega, by have := hgl a e; omega⟩⟩, ⟨hsm.1.trans HRK.out.be.os, hsm.2.1.trans HRK.out.be.tape, hsm.2.2.trans HRK.out.be.output, by omega, fun q h1 h2 _ => (hkp q (by omega) h2).trans (HRK.out.be.block q h1)⟩⟩
        · rw [hpp, Joins.block_setCell (i := 3) HF.out.bx _]
          simp
        · exact hs2.of_block (by omega) (fun a e => hkp _ (by have := hgl a e; omega) (by have := hgl a e; omega))
end

end Go.Proofs.YtkfnjpmigifomaaDoor
