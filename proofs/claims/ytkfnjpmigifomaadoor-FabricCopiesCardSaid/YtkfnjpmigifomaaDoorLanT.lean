/- What this text holds: taking a note out of a lane. No condition. -/
import Derived.Test.YtkfnjpmigifomaaDoorLan
import Derived.Lib.SmallJoins
namespace Go.Proofs.YtkfnjpmigifomaaDoor
open Go.RowKit

/-- What stands behind k rounds of the loop that leaves the note at j out. -/
def restN (xs : List Nt) (j k : Nat) : List Nt := (xs.take k).eraseIdx j
theorem restN_skip {xs : List Nt} {j k : Nat} (h : k < xs.length) (hj : k = j) : restN xs j (k + 1) = restN xs j k := by
  subst hj
  unfold restN
  rw [List.take_succ_eq_append_getElem h, List.eraseIdx_append_of_length_le (by simp; omega)]
  have e : k - (xs.take k).length = 0 := by simp; omega
  rw [e, List.eraseIdx_of_length_le (l := xs.take k) (by simp; omega)]
  simp
theorem restN_next {xs : List Nt} {j k : Nat} (h : k < xs.length) (hj : k ≠ j) : restN xs j (k + 1) = restN xs j k ++ [atN xs k] := by
  have hx : xs[k] = atN xs k := by simp [atN, h]
  unfold restN
  rw [List.take_succ_eq_append_getElem h, hx]
  by_cases hlt : j < k
  · rw [List.eraseIdx_append_of_lt_length (by simp; omega)]
  · have hkj : k < j := by omega
    rw [List.eraseIdx_append_of_length_le (by simp; omega)]
    have e : [atN xs k].eraseIdx (j - (xs.take k).length) = [atN xs k] := List.eraseIdx_of_length_le (by simp; omega)
    rw [e, List.eraseIdx_of_length_le (l := xs.take k) (by simp; omega)]
theorem restN_all (xs : List Nt) (j : Nat) : restN xs j xs.length = xs.eraseIdx j := by simp [restN]
theorem restN_len (xs : List Nt) (j k : Nat) : (restN xs j k).length ≤ xs.length := by
  unfold restN
  exact Nat.le_trans (List.length_eraseIdx_le _ _) (by simp; omega)

/-- A box of a note. -/
def BxN (w : World) (b : Nat) (x : Nt) : Prop := w.heap[b]? = some (.cells #[.int .i64 x.k, .int .i64 x.c, .int .i64 x.l, .int .i64 x.w, .int .i64 x.s, .int .i64 x.a, .int .i64 x.b, .bool x.d, .int .i64 x.n] 74 (0, 0))
theorem BxN.cell {w : World} {b : Nat} {x : Nt} (h : BxN w b x) : w.cell? ⟨b, 0, none⟩ = some (.int .i64 x.k) ∧ w.cell? ⟨b, 1, none⟩ = some (.int .i64 x.c) ∧ w.cell? ⟨b, 2, none⟩ = some (.int .i64 x.l) ∧ w.cell? ⟨b, 3, none⟩ = some (.int .i64 x.w) ∧ w.cell? ⟨b, 4, none⟩ = some (.int .i64 x.s) ∧ w.cell? ⟨b, 5, none⟩ = some (.int .i64 x.a) ∧ w.cell? ⟨b, 6, none⟩ = some (.int .i64 x.b) ∧ w.cell? ⟨b, 7, none⟩ = some (.bool x.d) ∧ w.cell? ⟨b, 8, none⟩ = some (.int .i64 x.n) := by
  unfold BxN at h
  simp [World.cell?, h]
theorem BxN.free {w : World} {b : Nat} {x : Nt} (h : BxN w b x) (i : Nat) : w.frozen? ⟨b, i, none⟩ = false := by
  unfold BxN at h
  simp [World.frozen?, h]
theorem BxN.lt {w : World} {b : Nat} {x : Nt} (h : BxN w b x) : b < w.heap.size := (Array.getElem?_eq_some_iff.1 h).1

/-- A note stored into a box. -/
def setN (w : World) (b : Nat) (x : Nt) : World :=
  ((((((((w.setCell ⟨b, 0, none⟩ (.int .i64 x.k)).setCell ⟨b, 1, none⟩ (.int .i64 x.c)).setCell ⟨b, 2, none⟩ (.int .i64 x.l)).setCell ⟨b, 3, none⟩ (.int .i64 x.w)).setCell ⟨b, 4, none⟩ (.int .i64 x.s)).setCell ⟨b, 5, none⟩ (.int .i64 x.a)).setCell ⟨b, 6, none⟩ (.int .i64 x.b)).setCell ⟨b, 7, none⟩ (.bool x.d)).setCell ⟨b, 8, none⟩ (.int .i64 x.n)
theorem setN_size (w : World) (b : Nat) (x : Nt) : (setN w b x).heap.size = w.heap.size := by simp [setN]
theorem setN_other (w : World) (b : Nat) (x : Nt) (k : Nat) (h : k ≠ b) : (setN w b x).heap[k]? = w.heap[k]? := by
  unfold setN
  repeat rw [Below.heap_setCell _ _ _ _ h]
theorem nine_set (a b c d e f g h i a' b' c' d' e' f' g' h' i' : Value) : (((((((((#[a, b, c, d, e, f, g, h, i].setIfInBounds 0 a').setIfInBounds 1 b').setIfInBounds 2 c').setIfInBounds 3 d').setIfInBounds 4 e').setIfInBounds 5 f').setIfInBounds 6 g').setIfInBounds 7 h').setIfInBounds 8 i') = #[a', b', c', d', e', f', g', h', i'] := by simp
theorem setN_box {w : World} {b : Nat} {y : Nt} (h : BxN w b y) (x : Nt) : BxN (setN w b x) b x := by
  have h0 := Joins.block_setCell (i := 0) h (.int .i64 x.k)
  have h1 := Joins.block_setCell (i := 1) h0 (.int .i64 x.c)
  have h2 := Joins.block_setCell (i := 2) h1 (.int .i64 x.l)
  have h3 := Joins.block_setCell (i := 3) h2 (.int .i64 x.w)
  have h4 := Joins.block_setCell (i := 4) h3 (.int .i64 x.s)
  have h5 := Joins.block_setCell (i := 5) h4 (.int .i64 x.a)
  have h6 := Joins.block_setCell (i := 6) h5 (.int .i64 x.b)
  have h7 := Joins.block_setCell (i := 7) h6 (.bool x.d)
  have h8 := Joins.block_setCell (i := 8) h7 (.int .i64 x.n)
  unfold BxN setN
  refine h8.trans ?_
  rw [nine_set]
theorem setN_below {W w : World} {b : Nat} {x : Nt} (hb : Below W.heap.size W w) (h : W.heap.size ≤ b) : Below W.heap.size W (setN w b x) := by
  unfold setN
  exact ((((((((hb.setCell (p := ⟨b, 0, none⟩) h _).setCell (p := ⟨b, 1, none⟩) h _).setCell (p := ⟨b, 2, none⟩) h _).setCell (p := ⟨b, 3, none⟩) h _).setCell (p := ⟨b, 4, none⟩) h _).setCell (p := ⟨b, 5, none⟩) h _).setCell (p := ⟨b, 6, none⟩) h _).setCell (p := ⟨b, 7, none⟩) h _).setCell (p := ⟨b, 8, none⟩) h _
theorem sc_os (w : World) (a : Addr) (v : Value) : (w.setCell a v).os = w.os := rfl
theorem sc_tape (w : World) (a : Addr) (v : Value) : (w.setCell a v).tape = w.tape := rfl
theorem sc_output (w : World) (a : Addr) (v : Value) : (w.setCell a v).output = w.output := rfl
theorem setN_same (w : World) (b : Nat) (x : Nt) : (setN w b x).os = w.os ∧ (setN w b x).tape = w.tape ∧ (setN w b x).output = w.output := by
  unfold setN
  simp only [sc_os, sc_tape, sc_output, and_self]
theorem setN_own {w : World} {b base : Nat} {x : Nt} {e : TypeId} {size n : Nat} {v : Value} {cs : List Value} (h : w.ownsRow base e size v n cs) (hb : b < base) : (setN w b x).ownsRow base e size v n cs :=
  ⟨h.1, h.2.imp id fun ⟨g, cap, cur, h1, h2, h3, h4⟩ => ⟨g, cap, cur, h1, h2, (setN_other w b x g (by omega)).trans h3, h4⟩⟩

theorem nine_at (w : World) (x : Nt) (t : TypeId) (B : Nat) (hB : B = w.heap.size) : ∀ j u, x.cells[j]? = some u → (w.alloc (.cells #[.int .i64 x.k, .int .i64 x.c, .int .i64 x.l, .int .i64 x.w, .int .i64 x.s, .int .i64 x.a, .int .i64 x.b, .bool x.d, .int .i64 x.n] t)).cell? ((⟨B, 0, none⟩ : Addr).add j) = some u := by
  intro j u hu
  subst hB
  rw [Addr.add_lit, Nat.zero_add]
  unfold World.cell?
  rw [heap_alloc_new w]
  have : (#[.int .i64 x.k, .int .i64 x.c, .int .i64 x.l, .int .i64 x.w, .int .i64 x.s, .int .i64 x.a, .int .i64 x.b, .bool x.d, .int .i64 x.n] : Array Value)[j]? = some u := by
    rw [← Array.getElem?_toList]
    exact hu
  simpa using this
theorem cells_one (x : Nt) : ∀ u ∈ x.cells, u.oneCell' = true := by
  intro u hu
  simp [Nt.cells] at hu
  rcases hu with rfl | rfl | rfl | rfl | rfl | rfl | rfl | rfl | rfl <;> rfl

theorem take_nil (which : Int) (w : World) : Calls Tryd.prog 77 #[.pointer none, .int .i64 which] w fun e w' => e = .returned (.tuple #[Nt.zero.val, .int .i64 2]) ∧ Below w.heap.size w w' := by
  go_enter Tryd.func77, Tryd.ntmps77
  go_wp2
  go_step3
  go_wp2
  rw [Exit.noGoto_ret]
  (try simp only [Exit.inBlock, Exit.then]); refine bodyPost_ret (by simp [results, Tryd.results77, go_sem]; try rfl) rfl ?_
  exact ⟨rfl, (by repeat (with_reducible first | exact Below.refl _ _ | assumption | (refine ext_next (by assumption) ?_) | apply ext_alloc | apply ext_past | apply ext_drew | apply ext_drewN))⟩

set_option maxRecDepth 100000 in
theorem take_none (p : Nat) (d : Int) (v : Value) (which : Int) (w : World) (h : La w p d v []) : Calls Tryd.prog 77 #[.pointer (some ⟨p, 0, none⟩), .int .i64 which] w fun e w' => e = .returned (.tuple #[Nt.zero.val, .int .i64 12]) ∧ Below w.heap.size w w' := by
  obtain ⟨A, cap, rfl, _⟩ := h.val
  have hl := h.lt
  have c1 := h.c1
  have H := Lib.hid h
  clear h
  go_enter Tryd.func77, Tryd.ntmps77
  go_wp2
  go_step3
  go_wp2
  rw [Exit.noGoto_ret]
  (try simp only [Exit.inBlock, Exit.then]); refine bodyPost_ret (by simp [results, Tryd.results77, go_sem]; try rfl) rfl ?_
  exact ⟨rfl, (by repeat (with_reducible first | exact Below.refl _ _ | assumption | (refine ext_next (by assumption) ?_) | apply ext_alloc | apply ext_past | apply ext_drew | apply ext_drewN))⟩

set_option maxRecDepth 100000 in
set_option maxHeartbeats 8000000 in
theorem take_ok (p : Nat) (d : Int) (v : Value) (xs : List Nt) (which : Int) (j : Nat) (w : World) (h : La w p d v xs) (hx : xs.length ≤ 16) (hj : j < xs.length)
    (hw : (Int.tmod which xs.length < 0 ∧ Int.tmod which xs.length + xs.length = j) ∨ (0 ≤ Int.tmod which xs.length ∧ Int.tmod which xs.length = j)) :
    Calls Tryd.prog 77 #[.pointer (some ⟨p, 0, none⟩), .int .i64 which] w fun e w' => e = .returned (.tuple #[(atN xs j).val, .int .i64 0]) ∧ ∃ v', La w' p d v' (xs.eraseIdx j) ∧ Tch w w' p none ∧ (∀ g, v'.ownBlock = some g → w.heap.size ≤ g) := by
  obtain ⟨A, cap, rfl, hsl, hcc⟩ := h.val
  obtain ⟨b, off, rfl, hbl, hcs⟩ := hsl (by omega)
  have hl := h.lt
  have c1 := h.c1
  have H := Lib.hid h
  have HC := Lib.hid hcs
  have hne : ((xs.length : Int) == 0) = false := by simp; intro h0; simp [h0] at hj
  have hxn : xs ≠ [] := by intro h0; simp [h0] at hj
  have hlo : -(xs.length : Int) < Int.tmod which xs.length := Int.lt_tmod_of_pos which (by omega)
  have hhi : Int.tmod which xs.length < xs.length := Int.tmod_lt_of_pos which (by omega)
  obtain ⟨i0, hi, hz0, hz1, hz2⟩ := info_parts info_note
  clear h hsl hcs
  rcases hw with ⟨h1, h2⟩ | ⟨h1, h2⟩
  · have HJ := Lib.hid h2
    clear h2
    go_enter Tryd.func77, Tryd.ntmps77
    go_wp2_with fail
    go_step3
    go_wp2_with fail
    go_step3
    go_wp2_with fail
    rw [HJ.out]
    clear h1 hlo hhi
    have hB0 : ∀ X Y : Obj, Below w.heap.size w ((w.alloc X).alloc Y) := fun X Y => ((Below.refl _ _).alloc (Nat.le_refl _) X).alloc (by simp) Y
    go_loopg [8, 42] xs.length (fun g8 s8 s42 wr => ∃ k : Nat, k + g8 = xs.length ∧ s42 = .int .i64 k ∧ Hid (Below w.heap.size w wr) ∧ Hid (BxN wr w.heap.size Nt.zero) ∧ Hid (BxN wr (w.heap.size + 1) (if j < k then atN xs j else Nt.zero)) ∧ Hid (wr.ownsRow (w.heap.size + 2) 74 9 s8 (restN xs j k).length (flatN (restN xs j k))))
    case atStart =>
      refine ⟨0, by omega, rfl, Lib.hid (hB0 _ _), Lib.hid ?_, Lib.hid ?_, Lib.hid ?_⟩
      · exact (heap_alloc_old _ _ (by simp)).trans (heap_alloc_new w _)
      · have := heap_alloc_new (w.alloc (.cells #[.int .i64 0, .int .i64 0, .int .i64 0, .int .i64 0, .int .i64 0, .int .i64 0, .int .i64 0, .bool false, .int .i64 0] 74)) (.cells #[.int .i64 0, .int .i64 0, .int .i64 0, .int .i64 0, .int .i64 0, .int .i64 0, .int .i64 0, .bool false, .int .i64 0] 74)
        simpa [BxN, Nt.zero] using this
      · simp [restN, flatN]
        exact World.ownsRow_nil _ _ _ _
    case round =>
      obtain ⟨k, hk, rfl, HB, HZ, HT, HO⟩ := hrel
      have hsz := HB.out.size
      have hlr : p < wr.heap.size := by omega
      have hTl := HT.out.lt
      by_cases hkl : k < xs.length
      · have ek : decide ((k : Int) < (xs.length : Int)) = true := by simp; omega
        have cx : ∀ jj u, (atN xs k).cells[jj]? = some u → wr.cell? ⟨b, off + k * 9 + jj, none⟩ = some u := fun jj u hu => (HB.out.cell (p := ⟨b, off + k * 9 + jj, none⟩) hbl).trans (HC.out k hkl jj u hu)
        have x0 : wr.cell? ⟨b, off + k * 9, none⟩ = _ := cx 0 _ rfl
        have x1 := cx 1 _ rfl
        have x2 := cx 2 _ rfl
        have x3 := cx 3 _ rfl
        have x4 := cx 4 _ rfl
        have x5 := cx 5 _ rfl
        have x6 := cx 6 _ rfl
        have x7 := cx 7 _ rfl
        have x8 := cx 8 _ rfl
        have hbr : b < wr.heap.size := by omega
        clear cx
        by_cases hkj : k = j
        · have ej : ((k : Int) == (j : Int)) = true := by simp; omega
          have HS := Lib.hid (restN_skip hkl hkj)
          have ht : BxN wr (w.heap.size + 1) Nt.zero := by have := HT.out; rwa [if_neg (by omega)] at this
          obtain ⟨t0, t1, t2, t3, t4, t5, t6, t7, t8⟩ := ht.cell
          have tf := ht.free
          have HT2 := Lib.hid ht
          have HKJ := Lib.hid hkj
          clear hkj ht
          go_wp2_with fail
          have bn := (Below.refl (setN wr (w.heap.size + 1) (atN xs k)).heap.size (setN wr (w.heap.size + 1) (atN xs k))).alloc (Nat.le_refl _) (.cells #[.int .i64 (atN xs k).k, .int .i64 (atN xs k).c, .int .i64 (atN xs k).l, .int .i64 (atN xs k).w, .int .i64 (atN xs k).s, .int .i64 (atN xs k).a, .int .i64 (atN xs k).b, .bool (atN xs k).d, .int .i64 (atN xs k).n] 74)
          go_roundg (xs.length - (k + 1))
          case measure => omega
          case rel =>
            refine ⟨k + 1, by omega, by go_num, Lib.hid ((setN_below HB.out (Nat.le_succ _)).alloc (by rw [setN_size]; exact hsz) _), Lib.hid ?_, Lib.hid ?_, Lib.hid ?_⟩
            · exact (bn.block _ (by rw [setN_size]; omega)).trans ((setN_other _ _ _ _ (by omega)).trans HZ.out)
            · have e : (if j < k + 1 then atN xs j else Nt.zero) = atN xs k := by
                have := HKJ.out
                rw [if_pos (by omega), this]
              rw [e]
              exact (bn.block _ (by rw [setN_size]; omega)).trans (setN_box HT2.out _)
            · rw [HS.out]
              exact (setN_own HO.out (by omega)).alloc _
        · have ej : ((k : Int) == (j : Int)) = false := by simp; omega
          have HS := Lib.hid (restN_next hkl hkj)
          have HKJ := Lib.hid hkj
          have hrl : (restN xs j k).length ≤ 16 := Nat.le_trans (restN_len xs j k) hx
          clear hkj
          go_wp2_with (at_builtin; refine wpList_append_own _ rfl _ _ 69 rfl (w.heap.size + 2) 74 i0 Nt.zero.val 9 72 Tryd.underlying69 hi hz0 hz1 hz2 rfl (by decide) _ _ _ rfl ((HO.out.alloc _).alloc _) ⟨wr.heap.size + 1, 0, none⟩ 1 1 (atN xs k).cells rfl rfl ?c1 ?c2 ?c3 ?c4 ?c5 ?_)
          case c1 => exact nine_at _ _ _ _ (by simp)
          case c2 => exact cells_one _
          case c3 => unfold maxLen; omega
          case c4 => omega
          case c5 => simp; omega
          intro v' w2 hown hgrow _
          have hnR : ∀ r, r < w.heap.size + 2 → some r ≠ u8.ownBlock := fun r hr e => by have := (HO.out.lt r e.symm).1; omega
          have HB2 := Lib.hid (below_grown ((HB.out.alloc hsz _).alloc (by simp; omega) _) ((HO.out.alloc _).alloc _) (Nat.le_add_right _ 2) hgrow)
          have HZ2 : Hid (BxN w2 w.heap.size Nt.zero) := Lib.hid ((hgrow.block _ (by simp; omega) (hnR _ (by omega))).trans ((heap_alloc_old _ _ (by simp; omega)).trans ((heap_alloc_old _ _ (by omega)).trans HZ.out)))
          have HT2 : Hid (BxN w2 (w.heap.size + 1) (if j < k + 1 then atN xs j else Nt.zero)) := Lib.hid (by
            have e : (if j < k + 1 then atN xs j else Nt.zero) = (if j < k then atN xs j else Nt.zero) := by
              have := HKJ.out
              by_cases hjk : j < k
              · rw [if_pos hjk, if_pos (by omega)]
              · rw [if_neg hjk, if_neg (by omega)]
            rw [e]
            exact (hgrow.block _ (by simp; omega) (hnR _ (by omega))).trans ((heap_alloc_old _ _ (by simp; omega)).trans ((heap_alloc_old _ _ (by omega)).trans HT.out)))
          have HO2 : Hid (w2.ownsRow (w.heap.size + 2) 74 9 v' (restN xs j (k + 1)).length (flatN (restN xs j (k + 1)))) := Lib.hid (by
            rw [HS.out, List.length_append, flatN_app]
            simpa [flatN] using hown)
          clear hown hgrow hnR
          go_wp2_with fail
          go_roundg (xs.length - (k + 1))
          case measure => omega
          case rel => exact ⟨k + 1, by omega, by go_num, HB2, HZ2, HT2, HO2⟩
      · have ek : decide ((k : Int) < (xs.length : Int)) = false := by simp; omega
        have hkx : k = xs.length := by omega
        have ht : BxN wr (w.heap.size + 1) (atN xs j) := by have := HT.out; rwa [if_pos (by omega)] at this
        have ho : wr.ownsRow (w.heap.size + 2) 74 9 u8 (xs.eraseIdx j).length (flatN (xs.eraseIdx j)) := by
          have := HO.out
          rw [hkx, restN_all] at this
          exact this
        obtain ⟨A2, l2, k2, rfl⟩ := owns_slice ho
        obtain ⟨t0, t1, t2, t3, t4, t5, t6, t7, t8⟩ := ht.cell
        obtain ⟨z0, z1, z2, z3, z4, z5, z6, z7, z8⟩ := HZ.out.cell
        have zf := HZ.out.free
        have zl := HZ.out.lt
        have c1r := (HB.out.cell (p := ⟨p, 1, none⟩) hl).trans c1
        have c0r := (HB.out.cell (p := ⟨p, 0, none⟩) hl).trans H.out.c0
        have fzr := (HB.out.frozen (p := ⟨p, 1, none⟩) hl).trans (H.out.fz 1)
        have hpz : p ≠ w.heap.size := by omega
        have hpt : p ≠ w.heap.size + 1 := by omega
        have HO2 := Lib.hid ho
        clear ho ht hkx hk
        generalize hy : atN xs j = y at *
        have HY := Lib.hid hy
        clear hy
        go_wp2_with fail
        obtain ⟨W9, hW9⟩ : ∃ W9, W9 = setN (wr.setCell ⟨p, 1, none⟩ (.slice A2 l2 k2)) w.heap.size y := ⟨_, rfl⟩
        have HW9 := Lib.hid hW9
        unfold setN at hW9
        rw [← hW9]
        clear hW9
        have hZ1 : BxN (wr.setCell ⟨p, 1, none⟩ (.slice A2 l2 k2)) w.heap.size Nt.zero := (Below.heap_setCell _ _ _ _ (by simp; omega)).trans HZ.out
        have hF : BxN W9 w.heap.size y := by rw [HW9.out]; exact setN_box hZ1 y
        obtain ⟨g0, g1, g2, g3, g4, g5, g6, g7, g8⟩ := hF.cell
        have hkp : ∀ q, q ≠ w.heap.size → q ≠ p → W9.heap[q]? = wr.heap[q]? := fun q h1 h2 => by
          rw [HW9.out, setN_other _ _ _ _ h1]
          exact Below.heap_setCell _ _ _ _ (by simpa using h2)
        have hpp : W9.heap[p]? = (wr.setCell ⟨p, 1, none⟩ (.slice A2 l2 k2)).heap[p]? := by rw [HW9.out, setN_other _ _ _ _ hpz]
        have hs9 : W9.heap.size = wr.heap.size := by rw [HW9.out, setN_size]; simp
        have hsm : W9.os = wr.os ∧ W9.tape = wr.tape ∧ W9.output = wr.output := by rw [HW9.out]; exact setN_same _ _ _
        rw [Exit.noGoto_ret]
        (try simp only [Exit.inBlock, Exit.then]); refine bodyPost_ret (by simp [results, Tryd.results77, go_sem, g0, g1, g2, g3, g4, g5, g6, g7, g8]; try rfl) rfl ?_
        refine ⟨by rw [HY.out]; rfl, _, ⟨by omega, ?_, ?_, fun i => ?_, ?_, fun e => by have := (HO2.out.lt p e).1; omega⟩, ⟨hsm.1.trans HB.out.os, hsm.2.1.trans HB.out.tape, hsm.2.2.trans HB.out.output, by omega, fun q h1 h2 _ => (hkp q (by omega) h2).trans (HB.out.block q h1)⟩, fun g hg => by have := (HO2.out.lt g hg).1; omega⟩
        · refine (World.cell?_of_block (a := ⟨p, 0, none⟩) hpp).trans ?_
          rw [World.cell?_setCell_other _ _ _ _ (fun e => by have := congrArg Addr.off e; simp at this)]
          exact c0r
        · exact (World.cell?_of_block (a := ⟨p, 1, none⟩) hpp).trans (World.cell?_setCell_same _ _ _ c1r)
        · refine (World.frozen?_of_block (a := ⟨p, i, none⟩) hpp).trans ?_
          have := (HB.out.frozen (p := ⟨p, i, none⟩) hl).trans (H.out.fz i)
          simpa using this
        · refine owns_mono (b := w.heap.size + 2) ?_ (Nat.zero_le _)
          exact ⟨HO2.out.1, HO2.out.2.imp id fun ⟨g, cap, cur, h1, h2, h3, h4⟩ => ⟨g, cap, cur, h1, h2, (hkp g (by omega) (by omega)).trans h3, h4⟩⟩
  · have HJ := Lib.hid h2
    clear h2
    go_enter Tryd.func77, Tryd.ntmps77
    go_wp2_with fail
    go_step3
    go_wp2_with fail
    go_step3
    go_wp2_with fail
    rw [HJ.out]
    clear h1 hlo hhi
    have hB0 : ∀ X Y : Obj, Below w.heap.size w ((w.alloc X).alloc Y) := fun X Y => ((Below.refl _ _).alloc (Nat.le_refl _) X).alloc (by simp) Y
    go_loopg [8, 42] xs.length (fun g8 s8 s42 wr => ∃ k : Nat, k + g8 = xs.length ∧ s42 = .int .i64 k ∧ Hid (Below w.heap.size w wr) ∧ Hid (BxN wr w.heap.size Nt.zero) ∧ Hid (BxN wr (w.heap.size + 1) (if j < k then atN xs j else Nt.zero)) ∧ Hid (wr.ownsRow (w.heap.size + 2) 74 9 s8 (restN xs j k).length (flatN (restN xs j k))))
    case atStart =>
      refine ⟨0, by omega, rfl, Lib.hid (hB0 _ _), Lib.hid ?_, Lib.hid ?_, Lib.hid ?_⟩
      · exact (heap_alloc_old _ _ (by simp)).trans (heap_alloc_new w _)
      · have := heap_alloc_new (w.alloc (.cells #[.int .i64 0, .int .i64 0, .int .i64 0, .int .i64 0, .int .i64 0, .int .i64 0, .int .i64 0, .bool false, .int .i64 0] 74)) (.cells #[.int .i64 0, .int .i64 0, .int .i64 0, .int .i64 0, .int .i64 0, .int .i64 0, .int .i64 0, .bool false, .int .i64 0] 74)
        simpa [BxN, Nt.zero] using this
      · simp [restN, flatN]
        exact World.ownsRow_nil _ _ _ _
    case round =>
      obtain ⟨k, hk, rfl, HB, HZ, HT, HO⟩ := hrel
      have hsz := HB.out.size
      have hlr : p < wr.heap.size := by omega
      have hTl := HT.out.lt
      by_cases hkl : k < xs.length
      · have ek : decide ((k : Int) < (xs.length : Int)) = true := by simp; omega
        have cx : ∀ jj u, (atN xs k).cells[jj]? = some u → wr.cell? ⟨b, off + k * 9 + jj, none⟩ = some u := fun jj u hu => (HB.out.cell (p := ⟨b, off + k * 9 + jj, none⟩) hbl).trans (HC.out k hkl jj u hu)
        have x0 : wr.cell? ⟨b, off + k * 9, none⟩ = _ := cx 0 _ rfl
        have x1 := cx 1 _ rfl
        have x2 := cx 2 _ rfl
        have x3 := cx 3 _ rfl
        have x4 := cx 4 _ rfl
        have x5 := cx 5 _ rfl
        have x6 := cx 6 _ rfl
        have x7 := cx 7 _ rfl
        have x8 := cx 8 _ rfl
        have hbr : b < wr.heap.size := by omega
        clear cx
        by_cases hkj : k = j
        · have ej : ((k : Int) == (j : Int)) = true := by simp; omega
          have HS := Lib.hid (restN_skip hkl hkj)
          have ht : BxN wr (w.heap.size + 1) Nt.zero := by have := HT.out; rwa [if_neg (by omega)] at this
          obtain ⟨t0, t1, t2, t3, t4, t5, t6, t7, t8⟩ := ht.cell
          have tf := ht.free
          have HT2 := Lib.hid ht
          have HKJ := Lib.hid hkj
          clear hkj ht
          go_wp2_with fail
          have bn := (Below.refl (setN wr (w.heap.size + 1) (atN xs k)).heap.size (setN wr (w.heap.size + 1) (atN xs k))).alloc (Nat.le_refl _) (.cells #[.int .i64 (atN xs k).k, .int .i64 (atN xs k).c, .int .i64 (atN xs k).l, .int .i64 (atN xs k).w, .int .i64 (atN xs k).s, .int .i64 (atN xs k).a, .int .i64 (atN xs k).b, .bool (atN xs k).d, .int .i64 (atN xs k).n] 74)
          go_roundg (xs.length - (k + 1))
          case measure => omega
          case rel =>
            refine ⟨k + 1, by omega, by go_num, Lib.hid ((setN_below HB.out (Nat.le_succ _)).alloc (by rw [setN_size]; exact hsz) _), Lib.hid ?_, Lib.hid ?_, Lib.hid ?_⟩
            · exact (bn.block _ (by rw [setN_size]; omega)).trans ((setN_other _ _ _ _ (by omega)).trans HZ.out)
            · have e : (if j < k + 1 then atN xs j else Nt.zero) = atN xs k := by
                have := HKJ.out
                rw [if_pos (by omega), this]
              rw [e]
              exact (bn.block _ (by rw [setN_size]; omega)).trans (setN_box HT2.out _)
            · rw [HS.out]
              exact (setN_own HO.out (by omega)).alloc _
        · have ej : ((k : Int) == (j : Int)) = false := by simp; omega
          have HS := Lib.hid (restN_next hkl hkj)
          have HKJ := Lib.hid hkj
          have hrl : (restN xs j k).length ≤ 16 := Nat.le_trans (restN_len xs j k) hx
          clear hkj
          go_wp2_with (at_builtin; refine wpList_append_own _ rfl _ _ 69 rfl (w.heap.size + 2) 74 i0 Nt.zero.val 9 72 Tryd.underlying69 hi hz0 hz1 hz2 rfl (by decide) _ _ _ rfl ((HO.out.alloc _).alloc _) ⟨wr.heap.size + 1, 0, none⟩ 1 1 (atN xs k).cells rfl rfl ?c1 ?c2 ?c3 ?c4 ?c5 ?_)
          case c1 => exact nine_at _ _ _ _ (by simp)
          case c2 => exact cells_one _
          case c3 => unfold maxLen; omega
          case c4 => omega
          case c5 => simp; omega
          intro v' w2 hown hgrow _
          have hnR : ∀ r, r < w.heap.size + 2 → some r ≠ u8.ownBlock := fun r hr e => by have := (HO.out.lt r e.symm).1; omega
          have HB2 := Lib.hid (below_grown ((HB.out.alloc hsz _).alloc (by simp; omega) _) ((HO.out.alloc _).alloc _) (Nat.le_add_right _ 2) hgrow)
          have HZ2 : Hid (BxN w2 w.heap.size Nt.zero) := Lib.hid ((hgrow.block _ (by simp; omega) (hnR _ (by omega))).trans ((heap_alloc_old _ _ (by simp; omega)).trans ((heap_alloc_old _ _ (by omega)).trans HZ.out)))
          have HT2 : Hid (BxN w2 (w.heap.size + 1) (if j < k + 1 then atN xs j else Nt.zero)) := Lib.hid (by
            have e : (if j < k + 1 then atN xs j else Nt.zero) = (if j < k then atN xs j else Nt.zero) := by
              have := HKJ.out
              by_cases hjk : j < k
              · rw [if_pos hjk, if_pos (by omega)]
              · rw [if_neg hjk, if_neg (by omega)]
            rw [e]
            exact (hgrow.block _ (by simp; omega) (hnR _ (by omega))).trans ((heap_alloc_old _ _ (by simp; omega)).trans ((heap_alloc_old _ _ (by omega)).trans HT.out)))
          have HO2 : Hid (w2.ownsRow (w.heap.size + 2) 74 9 v' (restN xs j (k + 1)).length (flatN (restN xs j (k + 1)))) := Lib.hid (by
            rw [HS.out, List.length_append, flatN_app]
            simpa [flatN] using hown)
          clear hown hgrow hnR
          go_wp2_with fail
          go_roundg (xs.length - (k + 1))
          case measure => omega
          case rel => exact ⟨k + 1, by omega, by go_num, HB2, HZ2, HT2, HO2⟩
      · have ek : decide ((k : Int) < (xs.length : Int)) = false := by simp; omega
        have hkx : k = xs.length := by omega
        have ht : BxN wr (w.heap.size + 1) (atN xs j) := by have := HT.out; rwa [if_pos (by omega)] at this
        have ho : wr.ownsRow (w.heap.size + 2) 74 9 u8 (xs.eraseIdx j).length (flatN (xs.eraseIdx j)) := by
          have := HO.out
          rw [hkx, restN_all] at this
          exact this
        obtain ⟨A2, l2, k2, rfl⟩ := owns_slice ho
        obtain ⟨t0, t1, t2, t3, t4, t5, t6, t7, t8⟩ := ht.cell
        obtain ⟨z0, z1, z2, z3, z4, z5, z6, z7, z8⟩ := HZ.out.cell
        have zf := HZ.out.free
        have zl := HZ.out.lt
        have c1r := (HB.out.cell (p := ⟨p, 1, none⟩) hl).trans c1
        have c0r := (HB.out.cell (p := ⟨p, 0, none⟩) hl).trans H.out.c0
        have fzr := (HB.out.frozen (p := ⟨p, 1, none⟩) hl).trans (H.out.fz 1)
        have hpz : p ≠ w.heap.size := by omega
        have hpt : p ≠ w.heap.size + 1 := by omega
        have HO2 := Lib.hid ho
        clear ho ht hkx hk
        generalize hy : atN xs j = y at *
        have HY := Lib.hid hy
        clear hy
        go_wp2_with fail
        obtain ⟨W9, hW9⟩ : ∃ W9, W9 = setN (wr.setCell ⟨p, 1, none⟩ (.slice A2 l2 k2)) w.heap.size y := ⟨_, rfl⟩
        have HW9 := Lib.hid hW9
        unfold setN at hW9
        rw [← hW9]
        clear hW9
        have hZ1 : BxN (wr.setCell ⟨p, 1, none⟩ (.slice A2 l2 k2)) w.heap.size Nt.zero := (Below.heap_setCell _ _ _ _ (by simp; omega)).trans HZ.out
        have hF : BxN W9 w.heap.size y := by rw [HW9.out]; exact setN_box hZ1 y
        obtain ⟨g0, g1, g2, g3, g4, g5, g6, g7, g8⟩ := hF.cell
        have hkp : ∀ q, q ≠ w.heap.size → q ≠ p → W9.heap[q]? = wr.heap[q]? := fun q h1 h2 => by
          rw [HW9.out, setN_other _ _ _ _ h1]
          exact Below.heap_setCell _ _ _ _ (by simpa using h2)
        have hpp : W9.heap[p]? = (wr.setCell ⟨p, 1, none⟩ (.slice A2 l2 k2)).heap[p]? := by rw [HW9.out, setN_other _ _ _ _ hpz]
        have hs9 : W9.heap.size = wr.heap.size := by rw [HW9.out, setN_size]; simp
        have hsm : W9.os = wr.os ∧ W9.tape = wr.tape ∧ W9.output = wr.output := by rw [HW9.out]; exact setN_same _ _ _
        rw [Exit.noGoto_ret]
        (try simp only [Exit.inBlock, Exit.then]); refine bodyPost_ret (by simp [results, Tryd.results77, go_sem, g0, g1, g2, g3, g4, g5, g6, g7, g8]; try rfl) rfl ?_
        refine ⟨by rw [HY.out]; rfl, _, ⟨by omega, ?_, ?_, fun i => ?_, ?_, fun e => by have := (HO2.out.lt p e).1; omega⟩, ⟨hsm.1.trans HB.out.os, hsm.2.1.trans HB.out.tape, hsm.2.2.trans HB.out.output, by omega, fun q h1 h2 _ => (hkp q (by omega) h2).trans (HB.out.block q h1)⟩, fun g hg => by have := (HO2.out.lt g hg).1; omega⟩
        · refine (World.cell?_of_block (a := ⟨p, 0, none⟩) hpp).trans ?_
          rw [World.cell?_setCell_other _ _ _ _ (fun e => by have := congrArg Addr.off e; simp at this)]
          exact c0r
        · exact (World.cell?_of_block (a := ⟨p, 1, none⟩) hpp).trans (World.cell?_setCell_same _ _ _ c1r)
        · refine (World.frozen?_of_block (a := ⟨p, i, none⟩) hpp).trans ?_
          have := (HB.out.frozen (p := ⟨p, i, none⟩) hl).trans (H.out.fz i)
          simpa using this
        · refine owns_mono (b := w.heap.size + 2) ?_ (Nat.zero_le _)
          exact ⟨HO2.out.1, HO2.out.2.imp id fun ⟨g, cap, cur, h1, h2, h3, h4⟩ => ⟨g, cap, cur, h1, h2, (hkp g (by omega) (by omega)).trans h3, h4⟩⟩

end Go.Proofs.YtkfnjpmigifomaaDoor
