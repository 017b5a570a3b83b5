/- What this text holds: a checker forgets. No condition. -/
import Derived.Test.YtjggnhcdnfmmeaaChkE
import Derived.Laws.EntriesVeiled
namespace Go.Proofs.Ytjggnhcdnfmmeaa
open Go.RowKit

theorem cdrop_nil (g : Int) (w : World) : Calls Try.prog 17 #[.pointer none, .int .i64 g] w fun e w' => e = .returned (.tuple #[.int .i64 0, .int .i64 2]) ∧ Below w.heap.size w w' := by
  go_enter Try.func17, Try.ntmps17
  go_wp2
  go_ret2
  exact ⟨rfl, (by repeat (with_reducible first | exact Below.refl _ _ | assumption | (refine ext_next (by assumption) ?_) | apply ext_alloc | apply ext_past | apply ext_drew | apply ext_drewN))⟩

theorem cdrop_no (p : Nat) (v : Value) (s : CkS) (g : Int) (w : World) (h : Ck w p v s) (hx : g < -1 ∨ s.gr ≤ g) : Calls Try.prog 17 #[.pointer (some ⟨p, 0, none⟩), .int .i64 g] w fun e w' => e = .returned (.tuple #[.int .i64 0, .int .i64 10]) ∧ Below w.heap.size w w' := by
  have c5 := h.cells.2.2.2.2.2.1
  have hl := h.lt
  clear h
  obtain ⟨sk, sg, sa, ss, se, sr, ks⟩ := s
  dsimp only at *
  by_cases h1 : g < -1
  · have e1 : decide (g < -1) = true := by simp; omega
    clear hx
    go_enter Try.func17, Try.ntmps17
    go_wp2_with fail
    refine region_past (by kernel_rfl) (by kernel_rfl) ?_; (repeat (go_big_quiet_step (fail))); refine wpQuiet_nil ?_; rintro _ ⟨pw, rfl⟩
    go_wp2_with fail
    go_ret2
    exact ⟨rfl, (by repeat (with_reducible first | exact Below.refl _ _ | assumption | (refine ext_next (by assumption) ?_) | apply ext_alloc | apply ext_past | apply ext_drew | apply ext_drewN))⟩
  · have e1 : decide (g < -1) = false := by simp; omega
    have e2 : decide (g ≥ sr) = true := by simp; omega
    clear hx
    go_enter Try.func17, Try.ntmps17
    go_wp2_with fail
    refine region_past (by kernel_rfl) (by kernel_rfl) ?_; (repeat (go_big_quiet_step (fail))); refine wpQuiet_nil ?_; rintro _ ⟨pw, rfl⟩
    go_wp2_with fail
    go_ret2
    exact ⟨rfl, (by repeat (with_reducible first | exact Below.refl _ _ | assumption | (refine ext_next (by assumption) ?_) | apply ext_alloc | apply ext_past | apply ext_drew | apply ext_drewN))⟩

theorem deletef_any (A : Option Addr) (cap bg bf : Nat) (ks : List Fa) (g : Int) (w : World) (h : w.ownsRow 0 98 2 (.slice A ks.length cap) ks.length (flatF ks)) (hn : A = none → ks.length = 0 ∧ cap = 0) (hb : Dl w bg bf g) (hl : ks.length ≤ 100) (h1 : (Value.slice A ks.length cap).ownBlock ≠ some bg) (h2 : (Value.slice A ks.length cap).ownBlock ≠ some bf) :
    Calls Try.prog 41 #[.slice A ks.length cap, .func (.func 42) #[] #[.pointer (some ⟨bf, 0, none⟩)]] w fun e w' => e = .returned (.slice A (kept g ks).length cap) ∧ w'.ownsRow 0 98 2 (.slice A (kept g ks).length cap) (kept g ks).length (flatF (kept g ks)) ∧ w.grownBy w' (Value.slice A ks.length cap).ownBlock := by
  cases A with
  | none =>
    obtain ⟨h3, rfl⟩ := hn rfl
    have h4 : ks = [] := List.eq_nil_of_length_eq_zero h3
    subst h4
    refine (deletef_nil bg bf g w hb).mono ?_
    rintro e w' ⟨rfl, hb'⟩
    exact ⟨rfl, World.ownsRow_nil _ _ _ _, ⟨hb'.os, hb'.tape, hb'.output, hb'.size, fun k hk _ => hb'.block k hk⟩⟩
  | some a =>
    obtain ⟨gb, cur, rfl, _⟩ := row_open h
    refine (deletef_some gb cap bg bf ks g w h hb hl (fun e => h1 (by rw [e]; rfl)) (fun e => h2 (by rw [e]; rfl))).mono ?_
    rintro e w' ⟨rfl, hc⟩
    exact ⟨rfl, hc.row, hc.grown⟩

theorem gone_past (x g : Int) (bg : Nat) (r : Bool) (w : World) (p : Past w) (hr : delB g x = r) (hb : w.heap[bg]? = some (.cells #[.int .i64 g] 3 (0, 0))) :
    Calls Try.prog 40 #[.int .i64 x, .pointer (some ⟨bg, 0, none⟩)] p.val fun e w'' => e = .returned (.bool r) ∧ ∃ q : Past w, w'' = q.val :=
  (gone_any x g bg p.val ((p.block bg (lt_of hb)).trans hb)).mono (fun _ w'' h => ⟨by rw [h.1, hr], p, h.2⟩)

/-- What a checker is behind a Drop. -/
def dropt (s : CkS) (g : Int) : CkS := { s with ks := kept g s.ks, st := s.st || (s.wk && delB g s.g) }

set_option maxRecDepth 100000 in
set_option maxHeartbeats 4000000 in
theorem cdrop_ok (p : Nat) (v : Value) (s : CkS) (g : Int) (w : World) (h : Ck w p v s) (hl : s.ks.length ≤ 100) (h1 : -1 ≤ g) (h2 : g < s.gr) :
    Calls Try.prog 17 #[.pointer (some ⟨p, 0, none⟩), .int .i64 g] w fun e w' => e = .returned (.tuple #[.int .i64 ((s.ks.length : Int) - (kept g s.ks).length), .int .i64 0]) ∧ ∃ v', Ck w' p v' (dropt s g) ∧ Tc w w' p v.ownBlock ∧ (∀ g, v'.ownBlock = some g → v.ownBlock = some g ∨ w.heap.size ≤ g) := by
  have H := Lib.hid h
  have hkl := kept_len g s.ks
  have c5 := h.cells.2.2.2.2.2.1
  obtain ⟨A, cap, rfl, _, hnone⟩ := h.val
  have hlt := h.lt
  have e1 : decide (g < -1) = false := by simp; omega
  have e2 : decide (g ≥ s.gr) = false := by simp; omega
  have HN := Lib.hid hnone
  clear h hnone
  go_enter Try.func17, Try.ntmps17
  go_wp2_with fail
  refine region_past (by kernel_rfl) (by kernel_rfl) ?_; (repeat (go_big_quiet_step (fail))); refine wpQuiet_nil ?_; rintro _ ⟨pw, rfl⟩
  obtain ⟨W1, hW1⟩ : ∃ W1, W1 = pw.val := ⟨_, rfl⟩
  have hb1 : Below w.heap.size w W1 := by rw [hW1]; exact ext_trans (ext_alloc _ (Below.refl _ _)) pw.below
  have hbx : W1.heap[w.heap.size]? = some (.cells #[.int .i64 g] 3 (0, 0)) := by rw [hW1]; exact (pw.below.block _ (by simp)).trans (alNew rfl)
  rw [← hW1]
  clear hW1
  have H1 := H.out.ext hb1
  have d6 := H1.cells.2.2.2.2.2.2
  have dl := H1.lt
  have hxl := lt_of hbx
  have HB1 := Lib.hid hb1
  have HX := Lib.hid hbx
  have H1h := Lib.hid H1
  clear hb1 hbx H1 c5 pw
  go_wp2_with fail
  have hnb : ∀ q, W1.heap.size ≤ q → (Value.slice A s.ks.length cap).ownBlock ≠ some q := fun q hq e => by have := (H1h.out.own.lt q e).2; omega
  refine (deletef_any A cap w.heap.size W1.heap.size s.ks g _ (H1h.out.ext (ext_alloc _ (Below.refl _ _))).own HN.out ⟨(Below.heap_alloc _ _ _ hxl).trans HX.out, alNew rfl⟩ hl (fun e => by have := (H.out.own.lt _ e).2; omega) (hnb _ (Nat.le_refl _))).mono ?_
  rintro e w2 ⟨rfl, ho, hg⟩
  have hk := (hg.block p (by simp; omega) (fun e => H1h.out.ne e.symm)).trans (Below.heap_alloc _ _ _ dl)
  have q6 := (World.cell?_of_block (a := ⟨p, 6, none⟩) hk).trans d6
  have qf := (World.frozen?_of_block (a := ⟨p, 6, none⟩) hk).trans (H1h.out.free 6)
  have hgW : W1.grownBy w2 (Value.slice A s.ks.length cap).ownBlock := ⟨hg.os, hg.tape, hg.output, Nat.le_trans (by simp) hg.size, fun k hk hn => (hg.block k (by simp; omega) hn).trans (Below.heap_alloc _ _ _ hk)⟩
  have hE := H1h.out.known (ks := kept g s.ks) hgW ho (fun q hq => .inl (by cases A <;> exact hq))
  have hz2 : W1.heap.size < w2.heap.size := by have := hg.size; simp at this; omega
  have hB : Hid (w2.heap[w.heap.size]? = some (.cells #[.int .i64 g] 3 (0, 0)) ∧ w2.heap[W1.heap.size]? = some (.cells #[.func (.func 40) #[] #[.pointer (some ⟨w.heap.size, 0, none⟩)]] 99 (0, 0))) :=
    Lib.hid ⟨(hgW.block _ hxl (fun e => by have := (H.out.own.lt _ e.symm).2; omega)).trans HX.out, (hg.block _ (by simp) (fun e => hnb _ (Nat.le_refl _) e.symm)).trans (alNew rfl)⟩
  have HE := Lib.hid hE
  clear ho hg hk hgW hE hnb
  go_wp2_with fail
  obtain ⟨W2, hW2⟩ : ∃ W2, W2 = w2.setCell ⟨p, 6, none⟩ (.slice A (kept g s.ks).length cap) := ⟨_, rfl⟩
  have hB2 : Hid (W2.heap[w.heap.size]? = some (.cells #[.int .i64 g] 3 (0, 0)) ∧ W2.heap[W1.heap.size]? = some (.cells #[.func (.func 40) #[] #[.pointer (some ⟨w.heap.size, 0, none⟩)]] 99 (0, 0))) := by
    rw [hW2]
    exact Lib.hid ⟨(Below.heap_setCell _ _ _ _ (by simp; omega)).trans hB.out.1, (Below.heap_setCell _ _ _ _ (by simp; omega)).trans hB.out.2⟩
  have hz3 : W1.heap.size < W2.heap.size := by rw [hW2]; simpa using hz2
  rw [← hW2] at HE ⊢
  clear hW2 q6 qf hB hz2 d6 dl
  obtain ⟨hC, hT, hF⟩ := HE.out
  have c0 := hC.cells.1
  have c1 := hC.cells.2.1
  have c6 := hC.cells.2.2.2.2.2.2
  have dl := hC.lt
  have df := hC.free 3
  have cB := cell_of hB2.out.2
  dsimp only at c0 c1 c6
  have HC := Lib.hid hC
  have HT := Lib.hid ((Tc.of_below (r := (Value.slice A s.ks.length cap).ownBlock) HB1.out).trans hT (fun q hq => .inl hq))
  have HF : Hid (∀ q, (Value.slice A (kept g s.ks).length cap).ownBlock = some q → (Value.slice A s.ks.length cap).ownBlock = some q ∨ w.heap.size ≤ q) := Lib.hid (fun q hq => .inl (by cases A <;> exact hq))
  clear hC hT hF HE
  have fin : ∀ W3, Below W2.heap.size W2 W3 → (s.wk && delB g s.g) = false → ∃ v', Ck W3 p v' (dropt s g) ∧ Tc w W3 p (Value.slice A s.ks.length cap).ownBlock ∧ (∀ g, v'.ownBlock = some g → (Value.slice A s.ks.length cap).ownBlock = some g ∨ w.heap.size ≤ g) := fun W3 hb3 hf => by
    refine ⟨_, ?_, HT.out.trans (Tc.of_below (r := none) hb3) (fun q hq => by cases hq), HF.out⟩
    have := HC.out.ext hb3
    unfold dropt
    rw [hf, Bool.or_false]
    exact this
  have fin2 : ∀ W3, Below W2.heap.size W2 W3 → (s.wk && delB g s.g) = true → ∃ v', Ck (W3.setCell ⟨p, 3, none⟩ (.bool true)) p v' (dropt s g) ∧ Tc w (W3.setCell ⟨p, 3, none⟩ (.bool true)) p (Value.slice A s.ks.length cap).ownBlock ∧ (∀ g, v'.ownBlock = some g → (Value.slice A s.ks.length cap).ownBlock = some g ∨ w.heap.size ≤ g) := fun W3 hb3 hf => by
    have h3 := HC.out.ext hb3
    refine ⟨.slice A (kept g s.ks).length cap, ?_, (HT.out.trans (Tc.of_below (r := none) hb3) (fun q hq => by cases hq)).trans (r' := none) ⟨rfl, rfl, rfl, by simp, fun k _ hk _ => Below.heap_setCell _ _ _ _ hk⟩ (fun q hq => by cases hq), HF.out⟩
    unfold dropt
    rw [hf, Bool.or_true]
    exact ⟨by simpa using Joins.block_setCell (i := 3) h3.blk (.bool true), row_keep h3.own (fun q hq => Below.heap_setCell _ _ _ _ (fun e => h3.ne (by rw [hq]; exact congrArg some e))), h3.ne⟩
  have FIN := Lib.hid fin
  have FIN2 := Lib.hid fin2
  clear fin fin2
  obtain ⟨sk, sg, sa, ss, se, sr, ks⟩ := s
  dsimp only at *
  cases sk
  · refine region_past (by kernel_rfl) (by kernel_rfl) ?_; (repeat (go_big_quiet_step (fail))); refine wpQuiet_nil ?_; rintro _ ⟨pw, rfl⟩
    obtain ⟨W3, hW3⟩ : ∃ W3, W3 = pw.val := ⟨_, rfl⟩
    have hb3 : Below W2.heap.size W2 W3 := by rw [hW3]; exact pw.below
    rw [← hW3]
    clear hW3
    have c6' := (HC.out.ext hb3).cells.2.2.2.2.2.2
    have dl' := (HC.out.ext hb3).lt
    have HB3 := Lib.hid hb3
    clear hb3 pw c6 dl
    go_wp2_with fail
    go_ret2
    exact ⟨by go_num, FIN.out _ HB3.out rfl⟩
  · cases hd : delB g sg
    · have HD := Lib.hid hd
      clear hd
      refine region_past (by kernel_rfl) (by kernel_rfl) ?_; (repeat (go_big_quiet_step ((go_at_call 40; exact gone_past _ g _ _ _ _ HD.out hB2.out.1)))); refine wpQuiet_nil ?_; rintro _ ⟨pw, rfl⟩
      obtain ⟨W3, hW3⟩ : ∃ W3, W3 = pw.val := ⟨_, rfl⟩
      have hb3 : Below W2.heap.size W2 W3 := by rw [hW3]; exact pw.below
      rw [← hW3]
      clear hW3
      have c6' := (HC.out.ext hb3).cells.2.2.2.2.2.2
      have dl' := (HC.out.ext hb3).lt
      have HB3 := Lib.hid hb3
      clear hb3 pw c6 dl
      go_wp2_with fail
      go_ret2
      exact ⟨by go_num, FIN.out _ HB3.out (by rw [HD.out]; rfl)⟩
    · have HD := Lib.hid hd
      clear hd
      refine region_past (by kernel_rfl) (by kernel_rfl) ?_; (repeat (go_big_quiet_step ((go_at_call 40; exact gone_past _ g _ _ _ _ HD.out hB2.out.1)))); refine wpQuiet_nil ?_; rintro _ ⟨pw, rfl⟩
      obtain ⟨W3, hW3⟩ : ∃ W3, W3 = pw.val := ⟨_, rfl⟩
      have hb3 : Below W2.heap.size W2 W3 := by rw [hW3]; exact pw.below
      rw [← hW3]
      clear hW3
      have d3 := (HC.out.ext hb3).cells.2.2.2.1
      have df3 := (HC.out.ext hb3).free 3
      have d6 := (HC.out.ext hb3).cells.2.2.2.2.2.2
      dsimp only at d3 d6
      have hE := FIN2.out W3 hb3 (by rw [HD.out]; rfl)
      obtain ⟨v', hE1, hE2, hE3⟩ := hE
      clear hb3 pw c6 dl
      go_wp2_with fail
      go_ret2
      exact ⟨by go_num, v', hE1, hE2, hE3⟩

end Go.Proofs.Ytjggnhcdnfmmeaa
