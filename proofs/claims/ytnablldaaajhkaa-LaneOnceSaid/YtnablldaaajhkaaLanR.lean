/- What this text holds: the document's lanes: putting, taking, copying. No condition. -/
import Derived.Test.YtnablldaaajhkaaLanW
import Derived.Test.YtnablldaaajhkaaApp
namespace Go.Proofs.Ytnablldaaajhkaa
open Go.RowKit

set_option maxRecDepth 100000 in
theorem rput_full (p : Nat) (d : Int) (v : Value) (xs : List Nt) (A : Option Addr) (m c : Nat) (w : World) (h : La w p d v xs) (hx : xs.length ≤ 100) (hm : m ≤ 100) (_h1 : 0 ≤ d) (_h2 : d ≤ 16) (hf : d < xs.length + m) :
    Calls Try.prog 41 #[.pointer (some ⟨p, 0, none⟩), .slice A m c] w fun e w' => e = .returned (.bool false) ∧ Below w.heap.size w w' := by
  obtain ⟨A2, cap, rfl, _⟩ := h.val
  have c0 := h.c0
  have c1 := h.c1
  have hl := h.lt
  have H := Lib.hid h
  clear h
  have e0 : decide ((xs.length : Int) + m > d) = true := by simp; omega
  go_enter Try.func41, Try.ntmps41
  go_wp2_with fail
  refine region_past (by kernel_rfl) (by kernel_rfl) ?_; (repeat (go_big_quiet_step (fail))); refine wpQuiet_nil ?_; rintro _ ⟨pw, rfl⟩
  go_wp2_with fail
  go_ret
  exact ⟨rfl, pw.below⟩

theorem SlN.full {w : World} {A : Option Addr} {ys : List Nt} (h : SlN w A ys) : ∀ ad, A = some ad → ∀ j u, (flatN ys)[j]? = some u → w.cell? (ad.add j) = some u := fun ad e => by
  subst e
  exact h.cells
theorem SlN.none0 {w : World} {A : Option Addr} {ys : List Nt} {c : Nat} (h : SlN w A ys) (hc : A = none → c = 0) : A = none → ys.length = 0 ∧ c = 0 := fun e => by
  refine ⟨?_, hc e⟩
  cases ys with
  | nil => rfl
  | cons y ys =>
    obtain ⟨b, off, h, _⟩ := h (by simp)
    rw [e] at h
    cases h

set_option maxRecDepth 100000 in
theorem rput_ok (p : Nat) (d : Int) (v : Value) (xs ys : List Nt) (A : Option Addr) (c : Nat) (w : World) (h : La w p d v xs) (hA : SlN w A ys) (hx : xs.length ≤ 100) (h1 : 0 ≤ d) (h2 : d ≤ 16) (hf : xs.length + ys.length ≤ d) (hc0 : A = none → c = 0) :
    Calls Try.prog 41 #[.pointer (some ⟨p, 0, none⟩), .slice A ys.length c] w fun e w' => e = .returned (.bool true) ∧ ∃ v', La w' p d v' (xs ++ ys) ∧ Tch w w' p v.ownBlock ∧ (∀ g, v'.ownBlock = some g → v.ownBlock = some g ∨ w.heap.size ≤ g) := by
  obtain ⟨A2, cap, rfl, _⟩ := h.val
  have c0 := h.c0
  have c1 := h.c1
  have hl := h.lt
  have H := Lib.hid h
  have HA := Lib.hid hA
  have HZ := Lib.hid (hA.none0 hc0)
  clear h hA hc0
  obtain ⟨i0, hi, hz0, hz1, hz2⟩ := info_parts info_note
  have e0 : decide ((xs.length : Int) + ys.length > d) = false := by simp; omega
  go_enter Try.func41, Try.ntmps41
  go_wp2_with fail
  refine region_past (by kernel_rfl) (by kernel_rfl) ?_; (repeat (go_big_quiet_step (fail))); refine wpQuiet_nil ?_; rintro _ ⟨pw, rfl⟩
  have hsz := pw.below.size
  have HL := Lib.hid (H.out.ext pw.below)
  have hfz := HL.out.fz 1
  go_wp2_with (at_builtin; refine wpList_append_full _ rfl _ _ 31 rfl 0 45 i0 Nt.zero.val 9 72 Try.underlying31 hi hz0 hz1 hz2 rfl (by decide) _ _ (flatN xs) rfl HL.out.own A ys.length _ (flatN ys) rfl HZ.out (flatN_len ys) (HA.out.ext pw.below).full (flatN_one ys) (by unfold maxLen; omega) (by omega) (by first | assumption | (simp; done) | (simp; omega) | omega) ?_)
  intro A3 c3 w2 h3 ho hg hf3
  have HG := Lib.hid hg
  have HO := Lib.hid ho
  have hq : w2.heap[p]? = pw.val.heap[p]? := hg.block p HL.out.lt (fun e => HL.out.ne e.symm)
  have q1 := (World.cell?_of_block (a := ⟨p, 1, none⟩) hq).trans HL.out.c1
  have qf := (World.frozen?_of_block (a := ⟨p, 1, none⟩) hq).trans hfz
  have HF := Lib.hid hf3
  clear ho hg hf3 h3
  go_wp2_with fail
  go_ret
  exact ⟨rfl, _, la_put HL.out pw.below hl (fun g hg => (H.out.own.lt g hg).2) HG.out HO.out HF.out⟩

set_option maxRecDepth 100000 in
theorem rtake_none (p : Nat) (d : Int) (v : Value) (which : Int) (w : World) (h : La w p d v []) : Calls Try.prog 42 #[.pointer (some ⟨p, 0, none⟩), .int .i64 which] w fun e w' => e = .returned (.tuple #[Nt.zero.val, .bool false]) ∧ Below w.heap.size w w' := by
  obtain ⟨A, cap, rfl, _⟩ := h.val
  have hl := h.lt
  have c1 := h.c1
  have H := Lib.hid h
  clear h
  go_enter Try.func42, Try.ntmps42
  go_wp2
  (try simp only [Exit.inBlock, Exit.then]); refine bodyPost_ret (by simp [results, Try.results42, go_sem]; try rfl) rfl ?_
  exact ⟨rfl, (by repeat (with_reducible first | exact Below.refl _ _ | assumption | (refine ext_next (by assumption) ?_) | apply ext_alloc | apply ext_past | apply ext_drew | apply ext_drewN))⟩

theorem SlN.take {w : World} {A : Option Addr} {xs : List Nt} (h : SlN w A xs) (j : Nat) : SlN w A (xs.take j) := fun h0 => by
  obtain ⟨b, off, hA, hb, hc⟩ := h (by simp at h0; omega)
  refine ⟨b, off, hA, hb, fun i hi k u hu => hc i (by simp at hi; omega) k u ?_⟩
  have hij : i < j := by simp at hi; omega
  simpa [atN, List.getElem?_take, hij] using hu
theorem SlN.drop {w : World} {b off : Nat} {xs : List Nt} (h : SlN w (some ⟨b, off, none⟩) xs) (j : Nat) : SlN w (some ⟨b, off + j * 9, none⟩) (xs.drop j) := fun h0 => by
  obtain ⟨b', off', hA, hb, hc⟩ := h (by simp at h0; omega)
  cases hA
  refine ⟨b, _, rfl, hb, fun i hi k u hu => ?_⟩
  have := hc (j + i) (by simp at hi; omega) k u (by simpa [atN, List.getElem?_drop] using hu)
  rw [show off + j * 9 + i * 9 + k = off + (j + i) * 9 + k by omega]
  exact this

theorem below_row {W w w' : World} {base : Nat} {e size n : Nat} {v : Value} {xs : List Value} (hb : Below W.heap.size W w) (hB : W.heap.size ≤ base) (ho : w.ownsRow base e size v n xs) (hg : w.grownBy w' v.ownBlock) : Below W.heap.size W w' :=
  hb.grown hg hb.size (fun k hk => Nat.le_trans hB (ho.lt k hk).1)
/-- A Take's end: the slice that is left is stored into the lane, and the note into the result's box. -/
theorem take_end {w wr : World} {p : Nat} {d : Int} {v v' : Value} {xs ys : List Nt} (y : Nt) (H : La w p d v xs) (HB : Below w.heap.size w wr) (HZ : BxN wr w.heap.size Nt.zero) (ho : wr.ownsRow (w.heap.size + 2) 45 9 v' ys.length (flatN ys)) :
    BxN (setN (wr.setCell ⟨p, 1, none⟩ v') w.heap.size y) w.heap.size y ∧ La (setN (wr.setCell ⟨p, 1, none⟩ v') w.heap.size y) p d v' ys ∧ Tch w (setN (wr.setCell ⟨p, 1, none⟩ v') w.heap.size y) p none ∧ (∀ g, v'.ownBlock = some g → w.heap.size ≤ g) := by
  have hl := H.lt
  have hs := HB.size
  have hpz : p ≠ w.heap.size := by omega
  have hZ1 : BxN (wr.setCell ⟨p, 1, none⟩ v') w.heap.size Nt.zero := (Below.heap_setCell _ _ _ _ (by simp; omega)).trans HZ
  have hkp : ∀ q, q ≠ w.heap.size → q ≠ p → (setN (wr.setCell ⟨p, 1, none⟩ v') w.heap.size y).heap[q]? = wr.heap[q]? := fun q h1 h2 => by
    rw [setN_other _ _ _ _ h1]
    exact Below.heap_setCell _ _ _ _ (by simpa using h2)
  have hpp : (setN (wr.setCell ⟨p, 1, none⟩ v') w.heap.size y).heap[p]? = (wr.setCell ⟨p, 1, none⟩ v').heap[p]? := setN_other _ _ _ _ hpz
  have hs9 : (setN (wr.setCell ⟨p, 1, none⟩ v') w.heap.size y).heap.size = wr.heap.size := by rw [setN_size]; simp
  have hsm := setN_same (wr.setCell ⟨p, 1, none⟩ v') w.heap.size y
  have c1r := (HB.cell (p := ⟨p, 1, none⟩) hl).trans H.c1
  have c0r := (HB.cell (p := ⟨p, 0, none⟩) hl).trans H.c0
  have hown : ∀ g, v'.ownBlock = some g → w.heap.size + 2 ≤ g := fun g hg => (ho.lt g hg).1
  refine ⟨setN_box hZ1 y, ⟨by omega, ?_, ?_, fun i => ?_, ?_, fun e => by have := hown p e; omega⟩, ⟨hsm.1.trans HB.os, hsm.2.1.trans HB.tape, hsm.2.2.trans HB.output, by omega, fun q h1 h2 _ => (hkp q (by omega) h2).trans (HB.block q h1)⟩, fun g hg => by have := hown g hg; omega⟩
  · refine (World.cell?_of_block (a := ⟨p, 0, none⟩) hpp).trans ?_
    rw [World.cell?_setCell_other _ _ _ _ (fun e => by have := congrArg Addr.off e; simp at this)]
    exact c0r
  · exact (World.cell?_of_block (a := ⟨p, 1, none⟩) hpp).trans (World.cell?_setCell_same _ _ _ c1r)
  · refine (World.frozen?_of_block (a := ⟨p, i, none⟩) hpp).trans ?_
    have := (HB.frozen (p := ⟨p, i, none⟩) hl).trans (H.fz i)
    simpa using this
  · exact row_keep (row_mono ho (by omega)) (fun g hg => hkp g (by have := hown g hg; omega) (by have := hown g hg; omega))

set_option maxRecDepth 100000 in
set_option maxHeartbeats 8000000 in
theorem rtake_ok (p : Nat) (d : Int) (v : Value) (xs : List Nt) (which : Int) (j : Nat) (w : World) (h : La w p d v xs) (hx : xs.length ≤ 16) (hj : j < xs.length)
    (hw : (Int.tmod which xs.length < 0 ∧ Int.tmod which xs.length + xs.length = j) ∨ (0 ≤ Int.tmod which xs.length ∧ Int.tmod which xs.length = j)) :
    Calls Try.prog 42 #[.pointer (some ⟨p, 0, none⟩), .int .i64 which] w fun e w' => e = .returned (.tuple #[(atN xs j).val, .bool true]) ∧ ∃ v', La w' p d v' (xs.eraseIdx j) ∧ Tch w w' p none ∧ (∀ g, v'.ownBlock = some g → w.heap.size ≤ g) := by
  obtain ⟨A, cap, rfl, hsl, hcc⟩ := h.val
  obtain ⟨b, off, rfl, hbl, hcs⟩ := hsl (by omega)
  have hl := h.lt
  have c1 := h.c1
  have H := Lib.hid h
  have HS := Lib.hid hsl
  have hne : ((xs.length : Int) == 0) = false := by simp; intro h0; simp [h0] at hj
  have hxn : xs ≠ [] := by intro h0; simp [h0] at hj
  have hlo : -(xs.length : Int) < Int.tmod which xs.length := Int.lt_tmod_of_pos which (by omega)
  have hhi : Int.tmod which xs.length < xs.length := Int.tmod_lt_of_pos which (by omega)
  obtain ⟨i0, hi, hz0, hz1, hz2⟩ := info_parts info_note
  have cx := hcs j hj
  have x0 : w.cell? ⟨b, off + j * 9, none⟩ = _ := cx 0 _ rfl
  have x1 := cx 1 _ rfl
  have x2 := cx 2 _ rfl
  have x3 := cx 3 _ rfl
  have x4 := cx 4 _ rfl
  have x5 := cx 5 _ rfl
  have x6 := cx 6 _ rfl
  have x7 := cx 7 _ rfl
  have x8 := cx 8 _ rfl
  clear h hsl hcs cx
  rcases hw with ⟨h1, h2⟩ | ⟨h1, h2⟩
  · go_enter Try.func42, Try.ntmps42
    go_wp2_with (at_builtin; refine wpList_append_full _ rfl _ _ 31 rfl (w.heap.size + 2) 45 i0 Nt.zero.val 9 72 Try.underlying31 hi hz0 hz1 hz2 rfl (by decide) (.slice none 0 0) 0 [] rfl (World.ownsRow_nil _ _ _ _) (some ⟨b, off, none⟩) j cap (flatN (xs.take j)) rfl (fun e => by cases e) (by rw [flatN_len, List.length_take, Nat.min_eq_left (by omega)]) ?c1 (flatN_one _) ?c3 ?c4 ?c5 ?_)
    case c1 => exact (((HS.out.take j).ext (ext_alloc _ (Below.refl _ _))).ext (ext_alloc _ (Below.refl _ _))).full
    case c3 => unfold maxLen; omega
    case c4 => omega
    case c5 => simp
    intro A3 c3 w2 h3 ho hg hf3
    have hBa : Hid (Below w.heap.size w w2) := Lib.hid (((ext_alloc _ (ext_alloc _ (Below.refl w.heap.size w))) : Below w.heap.size w _).grown hg (by simp; omega) (fun k e => by cases e))
    have hZ : Hid (BxN w2 w.heap.size Nt.zero) := Lib.hid ((hg.block _ (by simp; omega) (by simp [Value.ownBlock])).trans ((heap_alloc_old _ _ (by simp)).trans (heap_alloc_new w _)))
    have hT : Hid (BxN w2 (w.heap.size + 1) (atN xs j)) := Lib.hid ((hg.block _ (by simp) (by simp [Value.ownBlock])).trans (alNew (by simp)))
    have HO := Lib.hid ho
    have HF := Lib.hid (row_form ho)
    have h3' : Hid (A3 = none → j = 0 ∧ c3 = 0) := Lib.hid (fun e => by obtain ⟨A', c', h1, h2⟩ := HF.out; cases h1; exact h2 e)
    have hs2 := hBa.out.size
    have q1 := (hBa.out.cell (p := ⟨p, 1, none⟩) hl).trans c1
    have qf := (hBa.out.frozen (p := ⟨p, 1, none⟩) hl).trans (H.out.fz 1)
    have hlt := hT.out.lt
    clear ho hg h3 hf3
    have hn2 : Hid (j + (xs.length - (j + 1)) = (xs.eraseIdx j).length) := Lib.hid (by rw [List.length_eraseIdx_of_lt hj]; omega)
    have hfl : Hid (flatN (xs.take j) ++ flatN (xs.drop (j + 1)) = flatN (xs.eraseIdx j)) := Lib.hid (by rw [← flatN_app, List.eraseIdx_eq_take_drop_succ])
    have hdl : (flatN (xs.drop (j + 1))).length = (xs.length - (j + 1)) * 9 := by rw [flatN_len, List.length_drop]
    have HDL := Lib.hid hdl
    clear hdl
    by_cases hcap : cap = j + 1
    · subst hcap
      have hxj : Hid (xs.length = j + 1) := Lib.hid (by omega)
      have hrow : Hid (∀ (w' : World) A' c', w'.ownsRow (w.heap.size + 2) 45 9 (.slice A' j c') j (flatN (xs.take j)) → w'.ownsRow (w.heap.size + 2) 45 9 (.slice A' j c') (xs.eraseIdx j).length (flatN (xs.eraseIdx j))) := Lib.hid (fun w' A' c' h => by
        have e1 := hn2.out
        have e2 := hfl.out
        have e3 := hxj.out
        rw [List.drop_eq_nil_of_le (by omega)] at e2
        rw [← e2, ← e1, e3, Nat.sub_self]
        simpa [flatN] using h)
      go_wp2_with (at_builtin; refine wpList_append_full _ rfl _ _ 31 rfl (w.heap.size + 2) 45 i0 Nt.zero.val 9 72 Try.underlying31 hi hz0 hz1 hz2 rfl (by decide) (.slice A3 j c3) j (flatN (xs.take j)) rfl HO.out (some ⟨b, off, none⟩) 0 0 [] rfl (fun e => by cases e) rfl (fun ad _ q u hu => by simp at hu) ?c7 ?c3 ?c4 ?c5 ?_)
      case c7 => intro u hu; simp at hu
      case c3 => unfold maxLen; omega
      case c4 => omega
      case c5 => omega
      intro A4 c4 w3 h4 ho hg hf4
      have hB3 : Hid (Below w.heap.size w w3) := Lib.hid (below_row hBa.out (Nat.le_add_right _ 2) HO.out hg)
      have hne : ∀ k, k < w.heap.size + 2 → k < w2.heap.size → w3.heap[k]? = w2.heap[k]? := fun k h1 h2 => hg.block k h2 (fun e => by have := (HO.out.lt k e.symm).1; omega)
      have hZ3 : Hid (BxN w3 w.heap.size Nt.zero) := Lib.hid ((hne _ (by omega) (by omega)).trans hZ.out)
      have hT3 : Hid (BxN w3 (w.heap.size + 1) (atN xs j)) := Lib.hid ((hne _ (by omega) (by omega)).trans hT.out)
      have HO3 := Lib.hid (hrow.out _ _ _ ho)
      have q1 := (hB3.out.cell (p := ⟨p, 1, none⟩) hl).trans c1
      have qf := (hB3.out.frozen (p := ⟨p, 1, none⟩) hl).trans (H.out.fz 1)
      have hlt3 := hT3.out.lt
      obtain ⟨t0, t1, t2, t3, t4, t5, t6, t7, t8⟩ := hT3.out.cell
      obtain ⟨z0, z1, z2, z3, z4, z5, z6, z7, z8⟩ := hZ3.out.cell
      have zf := hZ3.out.free
      have hpz : p ≠ w.heap.size := by omega
      have hpt : p ≠ w.heap.size + 1 := by omega
      clear ho hg h4 hf4 hne hrow x0 x1 x2 x3 x4 x5 x6 x7 x8
      have hj' := Lib.hid hj
      generalize hy : atN xs j = y at *
      have HY := Lib.hid hy
      clear hy
      go_wp2_with fail
      have HE := take_end y H.out hB3.out hZ3.out HO3.out
      have hF := HE.1
      have HE2 := Lib.hid HE.2
      clear HE
      obtain ⟨W9, hW9⟩ : ∃ W9, W9 = setN (w3.setCell ⟨p, 1, none⟩ (.slice A4 j c4)) w.heap.size y := ⟨_, rfl⟩
      rw [← hW9] at hF HE2
      unfold setN at hW9
      rw [← hW9]
      clear hW9
      obtain ⟨g0, g1, g2, g3, g4, g5, g6, g7, g8⟩ := hF.cell
      (try simp only [Exit.inBlock, Exit.then]); refine bodyPost_ret (by simp [results, Try.results42, go_sem, g0, g1, g2, g3, g4, g5, g6, g7, g8]; try rfl) rfl ?_
      exact ⟨by rw [HY.out]; rfl, _, HE2.out⟩
    · have hc1 : j + 1 < cap := by omega
      have hrow : Hid (∀ (w' : World) A' c', w'.ownsRow (w.heap.size + 2) 45 9 (.slice A' (j + (xs.length - (j + 1))) c') (j + (xs.length - (j + 1))) (flatN (xs.take j) ++ flatN (xs.drop (j + 1))) → w'.ownsRow (w.heap.size + 2) 45 9 (.slice A' (j + (xs.length - (j + 1))) c') (xs.eraseIdx j).length (flatN (xs.eraseIdx j))) := Lib.hid (fun w' A' c' h => by
        rw [← hfl.out, ← hn2.out]
        exact h)
      clear hcap
      go_wp2_with (at_builtin; refine wpList_append_full _ rfl _ _ 31 rfl (w.heap.size + 2) 45 i0 Nt.zero.val 9 72 Try.underlying31 hi hz0 hz1 hz2 rfl (by decide) (.slice A3 j c3) j (flatN (xs.take j)) rfl HO.out (some ⟨b, off + (j + 1) * 9, none⟩) (xs.length - (j + 1)) (cap - (j + 1)) (flatN (xs.drop (j + 1))) rfl (fun e => by cases e) HDL.out ((HS.out.drop (j + 1)).ext hBa.out).full ?c7 ?c3 ?c4 ?c5 ?_)
      case c7 => exact flatN_one _
      case c3 => unfold maxLen; omega
      case c4 => omega
      case c5 => omega
      intro A4 c4 w3 h4 ho hg hf4
      have hB3 : Hid (Below w.heap.size w w3) := Lib.hid (below_row hBa.out (Nat.le_add_right _ 2) HO.out hg)
      have hne : ∀ k, k < w.heap.size + 2 → k < w2.heap.size → w3.heap[k]? = w2.heap[k]? := fun k h1 h2 => hg.block k h2 (fun e => by have := (HO.out.lt k e.symm).1; omega)
      have hZ3 : Hid (BxN w3 w.heap.size Nt.zero) := Lib.hid ((hne _ (by omega) (by omega)).trans hZ.out)
      have hT3 : Hid (BxN w3 (w.heap.size + 1) (atN xs j)) := Lib.hid ((hne _ (by omega) (by omega)).trans hT.out)
      have HO3 := Lib.hid (hrow.out _ _ _ ho)
      have q1 := (hB3.out.cell (p := ⟨p, 1, none⟩) hl).trans c1
      have qf := (hB3.out.frozen (p := ⟨p, 1, none⟩) hl).trans (H.out.fz 1)
      have hlt3 := hT3.out.lt
      obtain ⟨t0, t1, t2, t3, t4, t5, t6, t7, t8⟩ := hT3.out.cell
      obtain ⟨z0, z1, z2, z3, z4, z5, z6, z7, z8⟩ := hZ3.out.cell
      have zf := hZ3.out.free
      have hpz : p ≠ w.heap.size := by omega
      have hpt : p ≠ w.heap.size + 1 := by omega
      clear ho hg h4 hf4 hne hrow x0 x1 x2 x3 x4 x5 x6 x7 x8
      have hj' := Lib.hid hj
      generalize hy : atN xs j = y at *
      have HY := Lib.hid hy
      clear hy
      go_wp2_with fail
      have HE := take_end y H.out hB3.out hZ3.out HO3.out
      have hF := HE.1
      have HE2 := Lib.hid HE.2
      clear HE
      obtain ⟨W9, hW9⟩ : ∃ W9, W9 = setN (w3.setCell ⟨p, 1, none⟩ (.slice A4 (j + (xs.length - (j + 1))) c4)) w.heap.size y := ⟨_, rfl⟩
      rw [← hW9] at hF HE2
      unfold setN at hW9
      rw [← hW9]
      clear hW9
      obtain ⟨g0, g1, g2, g3, g4, g5, g6, g7, g8⟩ := hF.cell
      (try simp only [Exit.inBlock, Exit.then]); refine bodyPost_ret (by simp [results, Try.results42, go_sem, g0, g1, g2, g3, g4, g5, g6, g7, g8]; try rfl) rfl ?_
      exact ⟨by rw [HY.out]; rfl, _, HE2.out⟩
  · go_enter Try.func42, Try.ntmps42
    go_wp2_with (at_builtin; refine wpList_append_full _ rfl _ _ 31 rfl (w.heap.size + 2) 45 i0 Nt.zero.val 9 72 Try.underlying31 hi hz0 hz1 hz2 rfl (by decide) (.slice none 0 0) 0 [] rfl (World.ownsRow_nil _ _ _ _) (some ⟨b, off, none⟩) j cap (flatN (xs.take j)) rfl (fun e => by cases e) (by rw [flatN_len, List.length_take, Nat.min_eq_left (by omega)]) ?c1 (flatN_one _) ?c3 ?c4 ?c5 ?_)
    case c1 => exact (((HS.out.take j).ext (ext_alloc _ (Below.refl _ _))).ext (ext_alloc _ (Below.refl _ _))).full
    case c3 => unfold maxLen; omega
    case c4 => omega
    case c5 => simp
    intro A3 c3 w2 h3 ho hg hf3
    have hBa : Hid (Below w.heap.size w w2) := Lib.hid (((ext_alloc _ (ext_alloc _ (Below.refl w.heap.size w))) : Below w.heap.size w _).grown hg (by simp; omega) (fun k e => by cases e))
    have hZ : Hid (BxN w2 w.heap.size Nt.zero) := Lib.hid ((hg.block _ (by simp; omega) (by simp [Value.ownBlock])).trans ((heap_alloc_old _ _ (by simp)).trans (heap_alloc_new w _)))
    have hT : Hid (BxN w2 (w.heap.size + 1) (atN xs j)) := Lib.hid ((hg.block _ (by simp) (by simp [Value.ownBlock])).trans (alNew (by simp)))
    have HO := Lib.hid ho
    have HF := Lib.hid (row_form ho)
    have h3' : Hid (A3 = none → j = 0 ∧ c3 = 0) := Lib.hid (fun e => by obtain ⟨A', c', h1, h2⟩ := HF.out; cases h1; exact h2 e)
    have hs2 := hBa.out.size
    have q1 := (hBa.out.cell (p := ⟨p, 1, none⟩) hl).trans c1
    have qf := (hBa.out.frozen (p := ⟨p, 1, none⟩) hl).trans (H.out.fz 1)
    have hlt := hT.out.lt
    clear ho hg h3 hf3
    have hn2 : Hid (j + (xs.length - (j + 1)) = (xs.eraseIdx j).length) := Lib.hid (by rw [List.length_eraseIdx_of_lt hj]; omega)
    have hfl : Hid (flatN (xs.take j) ++ flatN (xs.drop (j + 1)) = flatN (xs.eraseIdx j)) := Lib.hid (by rw [← flatN_app, List.eraseIdx_eq_take_drop_succ])
    have hdl : (flatN (xs.drop (j + 1))).length = (xs.length - (j + 1)) * 9 := by rw [flatN_len, List.length_drop]
    have HDL := Lib.hid hdl
    clear hdl
    by_cases hcap : cap = j + 1
    · subst hcap
      have hxj : Hid (xs.length = j + 1) := Lib.hid (by omega)
      have hrow : Hid (∀ (w' : World) A' c', w'.ownsRow (w.heap.size + 2) 45 9 (.slice A' j c') j (flatN (xs.take j)) → w'.ownsRow (w.heap.size + 2) 45 9 (.slice A' j c') (xs.eraseIdx j).length (flatN (xs.eraseIdx j))) := Lib.hid (fun w' A' c' h => by
        have e1 := hn2.out
        have e2 := hfl.out
        have e3 := hxj.out
        rw [List.drop_eq_nil_of_le (by omega)] at e2
        rw [← e2, ← e1, e3, Nat.sub_self]
        simpa [flatN] using h)
      go_wp2_with (at_builtin; refine wpList_append_full _ rfl _ _ 31 rfl (w.heap.size + 2) 45 i0 Nt.zero.val 9 72 Try.underlying31 hi hz0 hz1 hz2 rfl (by decide) (.slice A3 j c3) j (flatN (xs.take j)) rfl HO.out (some ⟨b, off, none⟩) 0 0 [] rfl (fun e => by cases e) rfl (fun ad _ q u hu => by simp at hu) ?c7 ?c3 ?c4 ?c5 ?_)
      case c7 => intro u hu; simp at hu
      case c3 => unfold maxLen; omega
      case c4 => omega
      case c5 => omega
      intro A4 c4 w3 h4 ho hg hf4
      have hB3 : Hid (Below w.heap.size w w3) := Lib.hid (below_row hBa.out (Nat.le_add_right _ 2) HO.out hg)
      have hne : ∀ k, k < w.heap.size + 2 → k < w2.heap.size → w3.heap[k]? = w2.heap[k]? := fun k h1 h2 => hg.block k h2 (fun e => by have := (HO.out.lt k e.symm).1; omega)
      have hZ3 : Hid (BxN w3 w.heap.size Nt.zero) := Lib.hid ((hne _ (by omega) (by omega)).trans hZ.out)
      have hT3 : Hid (BxN w3 (w.heap.size + 1) (atN xs j)) := Lib.hid ((hne _ (by omega) (by omega)).trans hT.out)
      have HO3 := Lib.hid (hrow.out _ _ _ ho)
      have q1 := (hB3.out.cell (p := ⟨p, 1, none⟩) hl).trans c1
      have qf := (hB3.out.frozen (p := ⟨p, 1, none⟩) hl).trans (H.out.fz 1)
      have hlt3 := hT3.out.lt
      obtain ⟨t0, t1, t2, t3, t4, t5, t6, t7, t8⟩ := hT3.out.cell
      obtain ⟨z0, z1, z2, z3, z4, z5, z6, z7, z8⟩ := hZ3.out.cell
      have zf := hZ3.out.free
      have hpz : p ≠ w.heap.size := by omega
      have hpt : p ≠ w.heap.size + 1 := by omega
      clear ho hg h4 hf4 hne hrow x0 x1 x2 x3 x4 x5 x6 x7 x8
      have hj' := Lib.hid hj
      generalize hy : atN xs j = y at *
      have HY := Lib.hid hy
      clear hy
      go_wp2_with fail
      have HE := take_end y H.out hB3.out hZ3.out HO3.out
      have hF := HE.1
      have HE2 := Lib.hid HE.2
      clear HE
      obtain ⟨W9, hW9⟩ : ∃ W9, W9 = setN (w3.setCell ⟨p, 1, none⟩ (.slice A4 j c4)) w.heap.size y := ⟨_, rfl⟩
      rw [← hW9] at hF HE2
      unfold setN at hW9
      rw [← hW9]
      clear hW9
      obtain ⟨g0, g1, g2, g3, g4, g5, g6, g7, g8⟩ := hF.cell
      (try simp only [Exit.inBlock, Exit.then]); refine bodyPost_ret (by simp [results, Try.results42, go_sem, g0, g1, g2, g3, g4, g5, g6, g7, g8]; try rfl) rfl ?_
      exact ⟨by rw [HY.out]; rfl, _, HE2.out⟩
    · have hc1 : j + 1 < cap := by omega
      have hrow : Hid (∀ (w' : World) A' c', w'.ownsRow (w.heap.size + 2) 45 9 (.slice A' (j + (xs.length - (j + 1))) c') (j + (xs.length - (j + 1))) (flatN (xs.take j) ++ flatN (xs.drop (j + 1))) → w'.ownsRow (w.heap.size + 2) 45 9 (.slice A' (j + (xs.length - (j + 1))) c') (xs.eraseIdx j).length (flatN (xs.eraseIdx j))) := Lib.hid (fun w' A' c' h => by
        rw [← hfl.out, ← hn2.out]
        exact h)
      clear hcap
      go_wp2_with (at_builtin; refine wpList_append_full _ rfl _ _ 31 rfl (w.heap.size + 2) 45 i0 Nt.zero.val 9 72 Try.underlying31 hi hz0 hz1 hz2 rfl (by decide) (.slice A3 j c3) j (flatN (xs.take j)) rfl HO.out (some ⟨b, off + (j + 1) * 9, none⟩) (xs.length - (j + 1)) (cap - (j + 1)) (flatN (xs.drop (j + 1))) rfl (fun e => by cases e) HDL.out ((HS.out.drop (j + 1)).ext hBa.out).full ?c7 ?c3 ?c4 ?c5 ?_)
      case c7 => exact flatN_one _
      case c3 => unfold maxLen; omega
      case c4 => omega
      case c5 => omega
      intro A4 c4 w3 h4 ho hg hf4
      have hB3 : Hid (Below w.heap.size w w3) := Lib.hid (below_row hBa.out (Nat.le_add_right _ 2) HO.out hg)
      have hne : ∀ k, k < w.heap.size + 2 → k < w2.heap.size → w3.heap[k]? = w2.heap[k]? := fun k h1 h2 => hg.block k h2 (fun e => by have := (HO.out.lt k e.symm).1; omega)
      have hZ3 : Hid (BxN w3 w.heap.size Nt.zero) := Lib.hid ((hne _ (by omega) (by omega)).trans hZ.out)
      have hT3 : Hid (BxN w3 (w.heap.size + 1) (atN xs j)) := Lib.hid ((hne _ (by omega) (by omega)).trans hT.out)
      have HO3 := Lib.hid (hrow.out _ _ _ ho)
      have q1 := (hB3.out.cell (p := ⟨p, 1, none⟩) hl).trans c1
      have qf := (hB3.out.frozen (p := ⟨p, 1, none⟩) hl).trans (H.out.fz 1)
      have hlt3 := hT3.out.lt
      obtain ⟨t0, t1, t2, t3, t4, t5, t6, t7, t8⟩ := hT3.out.cell
      obtain ⟨z0, z1, z2, z3, z4, z5, z6, z7, z8⟩ := hZ3.out.cell
      have zf := hZ3.out.free
      have hpz : p ≠ w.heap.size := by omega
      have hpt : p ≠ w.heap.size + 1 := by omega
      clear ho hg h4 hf4 hne hrow x0 x1 x2 x3 x4 x5 x6 x7 x8
      have hj' := Lib.hid hj
      generalize hy : atN xs j = y at *
      have HY := Lib.hid hy
      clear hy
      go_wp2_with fail
      have HE := take_end y H.out hB3.out hZ3.out HO3.out
      have hF := HE.1
      have HE2 := Lib.hid HE.2
      clear HE
      obtain ⟨W9, hW9⟩ : ∃ W9, W9 = setN (w3.setCell ⟨p, 1, none⟩ (.slice A4 (j + (xs.length - (j + 1))) c4)) w.heap.size y := ⟨_, rfl⟩
      rw [← hW9] at hF HE2
      unfold setN at hW9
      rw [← hW9]
      clear hW9
      obtain ⟨g0, g1, g2, g3, g4, g5, g6, g7, g8⟩ := hF.cell
      (try simp only [Exit.inBlock, Exit.then]); refine bodyPost_ret (by simp [results, Try.results42, go_sem, g0, g1, g2, g3, g4, g5, g6, g7, g8]; try rfl) rfl ?_
      exact ⟨by rw [HY.out]; rfl, _, HE2.out⟩

theorem La.none0 {w : World} {p : Nat} {d : Int} {A : Option Addr} {m cap : Nat} {xs : List Nt} (h : La w p d (.slice A m cap) xs) : A = none → cap = 0 := fun e => by
  rcases h.own.2 with ⟨hv, _⟩ | ⟨g, k, cur, hv, _⟩
  · exact (Value.slice.inj hv).2.2
  · subst e; cases (Value.slice.inj hv).1
theorem undrew {w w' : World} (h : Below w.drew.heap.size w.drew w') : Below w.heap.size w w' := ⟨h.os, h.tape, h.output, h.size, h.block⟩

set_option maxRecDepth 100000 in
set_option maxHeartbeats 2000000 in
theorem lcopy_any (p : Nat) (d : Int) (v : Value) (xs : List Nt) (w : World) (h : La w p d v xs) (hn : xs.length ≤ 1000) : Calls Try.prog 31 #[.pointer (some ⟨p, 0, none⟩)] w fun e w' =>
    ∃ q v', e = .returned (.pointer (some ⟨q, 0, none⟩)) ∧ La w' q d v' xs ∧ w.heap.size ≤ q ∧ (∀ g, v'.ownBlock = some g → w.heap.size ≤ g) ∧ Below w.heap.size w w' := by
  obtain ⟨A, cap, rfl, hsl, _⟩ := h.val
  have hc0 := Lib.hid h.none0
  have HS := Lib.hid hsl
  have c0 := h.c0
  have c1 := h.c1
  have hl := h.lt
  clear h hsl
  go_enter Try.func31, Try.ntmps31
  go_wp2_with fail
  have QQ := And.intro c0 c1
  go_region_held3 (fun w' => w'.cell? ⟨p, 0, none⟩ = some (.int .i64 d) ∧ w'.cell? ⟨p, 1, none⟩ = some (.slice A xs.length cap))
    (first | exact QQ | exact ⟨(((Below.refl _ _).alloc (Nat.le_refl _) _).cell (p := ⟨p, 0, none⟩) hl1).trans QQ.1, (((Below.refl _ _).alloc (Nat.le_refl _) _).cell (p := ⟨p, 1, none⟩) hl1).trans QQ.2⟩)
    (first
      | (go_at_call 45; refine (cloneN_any A cap xs _ (HS.out.ext (ext_drew (Below.refl _ _))) hc0.out hn).mono ?_; rintro e w1 ⟨v', rfl, ho, hb⟩; have HO := Lib.hid ho; have HB := Lib.hid (undrew hb); have QQ := And.intro ((HB.out.cell (p := ⟨p, 0, none⟩) hl).trans c0) ((HB.out.cell (p := ⟨p, 1, none⟩) hl).trans c1); have hl1 : p < w1.heap.size := Nat.lt_of_lt_of_le hl HB.out.size; obtain ⟨A2, l2, k2, rfl⟩ := owns_slice ho; clear ho hb))
  go_wp2_with fail
  go_ret
  have hs := HB.out.size
  have bn := (Below.refl w1.heap.size w1).alloc (Nat.le_refl _) (.cells #[.int .i64 d, .slice A2 l2 k2] 86)
  refine ⟨w1.heap.size, _, rfl, ⟨by simp, by simp [World.cell?_alloc_at], by simp [World.cell?_alloc_at], fun i => by simp [World.frozen?_alloc_at], row_keep (row_mono HO.out (Nat.zero_le _)) (fun g hg => bn.block g (HO.out.lt g hg).2), fun e => by have := (HO.out.lt _ e).2; omega⟩, hs, fun g hg => (HO.out.lt g hg).1, HB.out.alloc hs _⟩

set_option maxRecDepth 100000 in
set_option maxHeartbeats 2000000 in
theorem rcopy_any (p : Nat) (d : Int) (v : Value) (xs : List Nt) (w : World) (h : La w p d v xs) (hn : xs.length ≤ 1000) : Calls Try.prog 32 #[.pointer (some ⟨p, 0, none⟩)] w fun e w' =>
    ∃ q v', e = .returned (.pointer (some ⟨q, 0, none⟩)) ∧ La w' q d v' xs ∧ w.heap.size ≤ q ∧ (∀ g, v'.ownBlock = some g → w.heap.size ≤ g) ∧ Below w.heap.size w w' := by
  obtain ⟨A, cap, rfl, hsl, _⟩ := h.val
  have hc0 := Lib.hid (hsl.none0 h.none0)
  have HS := Lib.hid hsl
  have c0 := h.c0
  have c1 := h.c1
  have hl := h.lt
  obtain ⟨i0, hi, hz0, hz1, hz2⟩ := info_parts info_note
  clear h hsl
  go_enter Try.func32, Try.ntmps32
  go_wp2_with fail
  go_region_law (refine step_append_full _ rfl _ _ 31 rfl 0 45 i0 Nt.zero.val 9 72 Try.underlying31 hi hz0 hz1 hz2 rfl (by decide) (.slice none 0 0) 0 [] rfl (World.ownsRow_nil _ _ _ _) A xs.length cap (flatN xs) rfl hc0.out (flatN_len xs) (((HS.out.ext (ext_alloc _ (Below.refl _ _))).ext (ext_drew (Below.refl _ _)))).full (flatN_one _) (by unfold maxLen; omega) (by omega) (Nat.zero_le _) ?_; intro A3 c3 w2 h3 ho hg hf3; have q0 := (World.cell?_of_block (a := ⟨w.heap.size, 0, none⟩) (hg.block w.heap.size (by simp) (by simp [Value.ownBlock]))).trans (show _ = some (.int .i64 d) by simp [World.cell?_alloc_at]); have q1 := (World.cell?_of_block (a := ⟨w.heap.size, 1, none⟩) (hg.block w.heap.size (by simp) (by simp [Value.ownBlock]))).trans (show _ = some (.slice none 0 0) by simp [World.cell?_alloc_at]); have qf := fun i => (World.frozen?_of_block (a := ⟨w.heap.size, i, none⟩) (hg.block w.heap.size (by simp) (by simp [Value.ownBlock]))).trans (show _ = false by simp [World.frozen?_alloc_at]); have HG := Lib.hid hg; have HO := Lib.hid ho; have hz := Lib.hid hf3; clear ho hg h3 hf3)
  all_goals
    go_wp2_with fail
    go_ret
    have hs := HG.out.size
    have hs' : w.heap.size < w2.heap.size := Nat.lt_of_lt_of_le (by simp) hs
    have hgs : ∀ g, (Value.slice A3 xs.length c3).ownBlock = some g → w.heap.size < g := fun g hg => by
      rcases hz.out g (by simpa using hg) with h | h
      · cases h
      · simp at h; omega
    have hB : Below w.heap.size w w2 := (((Below.refl w.heap.size w).alloc (Nat.le_refl _) _).drew).grown HG.out (by simp) (fun k e => by cases e)
    refine ⟨w.heap.size, _, rfl, ⟨by simpa using hs', ?_, World.cell?_setCell_same _ _ _ q1, fun i => by simpa using qf i, row_keep (by simpa using HO.out) (fun g hg => Below.heap_setCell _ _ _ _ (by have := hgs g hg; simp; omega)), fun e => by have := hgs _ e; omega⟩, Nat.le_refl _, fun g hg => Nat.le_of_lt (hgs g hg), hB.setCell (p := ⟨w.heap.size, 1, none⟩) (Nat.le_refl _) _⟩
    rw [World.cell?_setCell_other _ _ _ _ (fun e => by have := congrArg Addr.off e; simp at this)]
    exact q0

end Go.Proofs.Ytnablldaaajhkaa
