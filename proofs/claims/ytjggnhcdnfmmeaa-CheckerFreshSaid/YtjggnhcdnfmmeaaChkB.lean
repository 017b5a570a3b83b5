/- What this text holds: learning a fact; what a word tells a checker's walk. No condition. -/
import Derived.Test.YtjggnhcdnfmmeaaChkA
namespace Go.Proofs.Ytjggnhcdnfmmeaa
open Go.RowKit

theorem zero_fact (w : World) : (zeroValue 98).run Try.prog w = .ok (.agg #[.int .i64 0, .int .i64 0]) w := by kernel_rfl

/-- The row behind a deletion in place: cut to what is kept, its block alone turned. -/
structure CutF (w w' : World) (g cap : Nat) (ks : List Fa) : Prop where
  row : w'.ownsRow 0 98 2 (.slice (some ⟨g, 0, none⟩) ks.length cap) ks.length (flatF ks)
  grown : w.grownBy w' (some g)

/-- Cells behind a row are cleared. -/
theorem clear_tail (w : World) (g m n cap : Nat) (ks : List Fa) (h : w.ownsRow 0 98 2 (.slice (some ⟨g, 0, none⟩) m cap) m (flatF ks)) (hn : 0 < n) (hm : m + n ≤ cap) :
    (∀ ty c, (Builtin.clear_ #[91] ty #[.slice (some ⟨g, m * 2, none⟩) n c]).run Try.prog w = .ok (.tuple #[]) (w.setCells g (m * 2) (Builtin.zeroCells #[.int .i64 0, .int .i64 0] n).toList)) ∧
    (w.setCells g (m * 2) (Builtin.zeroCells #[.int .i64 0, .int .i64 0] n).toList).ownsRow 0 98 2 (.slice (some ⟨g, 0, none⟩) m cap) m (flatF ks) ∧ w.grownBy (w.setCells g (m * 2) (Builtin.zeroCells #[.int .i64 0, .int .i64 0] n).toList) (some g) := by
  have hl := h.1
  obtain ⟨g', cur, hg', hb, hgg, hnc, hcm, hcs, htk⟩ := row_open h
  cases hg'
  refine ⟨fun ty c => ?_, ?_, ?_⟩
  · refine run_clear_rows w 91 98 ty (.agg #[.int .i64 0, .int .i64 0]) Try.underlying91 zero_fact (by decide) (fun u hu => by simp [Value.cells] at hu; rw [hu]; rfl) g (m * 2) n c hn (fun j hj => ?_) (fun j hj => ?_)
    · have hj2 : j < n * 2 := hj
      have hlt : m * 2 + j < cur.size := by rw [hcs]; omega
      simp [World.cell?, hgg, hlt]
    · simp [World.frozen?, hgg]
  · obtain ⟨cur', h1, h2, h3⟩ := setCells_block g 98 (0, 0) (Builtin.zeroCells #[.int .i64 0, .int .i64 0] n).toList (m * 2) w cur hgg
    refine row_make hb h1 hnc hcm (by rw [h2, hcs]) hl (fun q hq => ?_)
    rw [h3 q hq, ← htk, List.getElem?_take, if_pos hq, Array.getElem?_toList]
  · obtain ⟨s1, s2, s3⟩ := setCells_same g (Builtin.zeroCells #[.int .i64 0, .int .i64 0] n).toList (m * 2) w
    exact ⟨s1, s2, s3, by rw [setCells_size]; exact Nat.le_refl _, fun k _ hk => setCells_other g _ _ w k (fun e => hk (by rw [e]))⟩
theorem grown_two {a b c : World} {r : Option Nat} (h : a.grownBy b r) (k : b.grownBy c r) : a.grownBy c r :=
  ⟨k.os.trans h.os, k.tape.trans h.tape, k.output.trans h.output, Nat.le_trans h.size k.size, fun q hq hn => (k.block q (Nat.lt_of_lt_of_le hq h.size) hn).trans (h.block q hq hn)⟩
theorem grown_drew {a b : World} {r : Option Nat} (h : a.drew.grownBy b r) : a.grownBy b r := ⟨h.os, h.tape, h.output, h.size, h.block⟩

set_option maxRecDepth 100000 in
theorem delete1_any (g cap : Nat) (ks : List Fa) (w : World) (h : w.ownsRow 0 98 2 (.slice (some ⟨g, 0, none⟩) ks.length cap) ks.length (flatF ks)) (h0 : 0 < ks.length) (hl : ks.length ≤ 100) :
    Calls Try.prog 57 #[.slice (some ⟨g, 0, none⟩) ks.length cap, .int .i64 0, .int .i64 1] w fun e w' => e = .returned (.slice (some ⟨g, 0, none⟩) (ks.length - 1) cap) ∧ CutF w w' g cap ks.tail := by
  obtain ⟨i0, hi, hz0, hz1, hz2⟩ := info_parts info_fact
  have hcut := row_cut h (Nat.zero_le _)
  have hat := row_at h
  obtain ⟨g', cur, hg', _, hgg, hnc, hcm, hcs, htk⟩ := row_open h
  cases hg'
  have HC : Hid (w.drew.ownsRow 0 98 2 (.slice (some ⟨g, 0, none⟩) 0 cap) 0 []) := Lib.hid (by have h1 : w.ownsRow 0 98 2 (.slice (some ⟨g, 0, none⟩) 0 cap) 0 [] := (by simpa using hcut); exact h1)
  obtain ⟨k0, tl, rfl⟩ : ∃ k0 tl, ks = k0 :: tl := by
    cases ks with
    | nil => simp at h0
    | cons x xs => exact ⟨x, xs, rfl⟩
  have HT : Hid (∀ j u, (flatF tl)[j]? = some u → w.drew.cell? ((⟨g, 2, none⟩ : Addr).add j) = some u) := Lib.hid (fun j u hu => by
    rw [Addr.add_lit]
    refine hat (2 + j) u ?_
    have e : flatF (k0 :: tl) = [.int .i64 k0.1, .int .i64 k0.2] ++ flatF tl := by simp [flatF]
    rw [e, List.getElem?_append_right (by simp)]
    simpa using hu)
  have hgl := lt_of hgg
  unfold maxLen at hcm
  have hlen : ((k0 :: tl).length : Nat) = tl.length + 1 := rfl
  rw [hlen] at hnc hl ⊢
  clear hgg hcs htk h hcut hat hlen h0
  rw [Nat.add_sub_cancel]
  by_cases hcap : cap = 1
  · have htl : tl = [] := List.eq_nil_of_length_eq_zero (by omega)
    subst hcap
    subst htl
    go_enter Try.func57, Try.ntmps57
    go_wp2_with fail
    go_region_law (refine step_append_fits _ rfl (.tmp 22) (.tmp 25) 91 rfl 0 98 i0 2 Try.underlying91 hi hz1 g 0 1 [] (by simp [Act.eval, Act.put]) HC.out ⟨g, 0, none⟩ 0 0 [] (by simp [Act.eval, Act.put]) rfl (fun j u hu => by simp at hu) (fun u hu => by simp at hu) (by omega) ?_; intro w2 ho hg)
    have ho' : w2.ownsRow 0 98 2 (.slice (some ⟨g, 0, none⟩) 0 1) 0 (flatF []) := by simpa [flatF] using ho
    obtain ⟨hcl, hrw, hgr⟩ := clear_tail w2 g 0 1 1 [] ho' (by omega) (by omega)
    simp only [Nat.zero_mul] at hcl hrw hgr
    have HR := Lib.hid hrw
    have HGr := Lib.hid (grown_two (grown_drew hg) hgr)
    clear ho ho' hg hrw hgr
    go_wp2_with fail
    go_ret
    exact ⟨rfl, HR.out, HGr.out⟩
  · have hc2 : 1 < cap := by omega
    have e1 : (1 : Int) ≤ (tl.length : Int) + 1 := by omega
    have e2 : (1 : Nat) ≤ tl.length + 1 := by omega
    go_enter Try.func57, Try.ntmps57
    go_wp2_with fail
    go_region_law (refine step_append_fits _ rfl (.tmp 22) (.tmp 25) 91 rfl 0 98 i0 2 Try.underlying91 hi hz1 g 0 cap [] (by simp [Act.eval, Act.put]) HC.out ⟨g, 2, none⟩ tl.length (cap - 1) (flatF tl) (by simp [Act.eval, Act.put]) (flatF_len tl) HT.out (flatF_one tl) (by omega) ?_; intro w2 ho hg)
    have ho' : w2.ownsRow 0 98 2 (.slice (some ⟨g, 0, none⟩) tl.length cap) tl.length (flatF tl) := by simpa using ho
    obtain ⟨hcl, hrw, hgr⟩ := clear_tail w2 g tl.length 1 cap tl ho' (by omega) (by omega)
    skip
    have HR := Lib.hid hrw
    have HGr := Lib.hid (grown_two (grown_drew hg) hgr)
    clear ho ho' hg hrw hgr
    go_wp2_with fail
    go_ret
    exact ⟨rfl, HR.out, HGr.out⟩

/-- What a call turns: a block, and perhaps a row; and what is new. -/
structure Tc (w w' : World) (p : Nat) (r : Option Nat) : Prop where
  os : w'.os = w.os
  tape : w'.tape = w.tape
  output : w'.output = w.output
  size : w.heap.size ≤ w'.heap.size
  block : ∀ k, k < w.heap.size → k ≠ p → some k ≠ r → w'.heap[k]? = w.heap[k]?
theorem Tc.below {W w w' : World} {p : Nat} {r : Option Nat} (h : Tc w w' p r) (hb : Below W.heap.size W w) (hp : W.heap.size ≤ p) (hr : ∀ g, r = some g → W.heap.size ≤ g) : Below W.heap.size W w' :=
  ⟨h.os.trans hb.os, h.tape.trans hb.tape, h.output.trans hb.output, Nat.le_trans hb.size h.size, fun k hk => (h.block k (Nat.lt_of_lt_of_le hk hb.size) (by omega) (fun e => by have := hr k e.symm; omega)).trans (hb.block k hk)⟩
theorem Tc.of_below {w w' : World} {p : Nat} {r : Option Nat} (h : Below w.heap.size w w') : Tc w w' p r := ⟨h.os, h.tape, h.output, h.size, fun k hk _ _ => h.block k hk⟩
theorem Tc.of_grown {w w' : World} {p : Nat} {r : Option Nat} (h : w.grownBy w' (some p)) : Tc w w' p r := ⟨h.os, h.tape, h.output, h.size, fun k hk hn _ => h.block k hk (fun e => hn (Option.some.inj e))⟩
theorem Tc.trans {a b c : World} {p : Nat} {r r' : Option Nat} (h : Tc a b p r) (k : Tc b c p r') (hr : ∀ g, r' = some g → r = some g ∨ a.heap.size ≤ g) : Tc a c p r :=
  ⟨k.os.trans h.os, k.tape.trans h.tape, k.output.trans h.output, Nat.le_trans h.size k.size, fun q hq h1 h2 => (k.block q (Nat.lt_of_lt_of_le hq h.size) h1 (fun e => by
    rcases hr q e.symm with h3 | h3
    · exact h2 h3.symm
    · omega)).trans (h.block q hq h1 h2)⟩
/-- A new list of facts in a checker's cell. -/
theorem Ck.known {w w1 : World} {p : Nat} {v v' : Value} {s : CkS} {ks : List Fa} (h : Ck w p v s) (hg : w.grownBy w1 v.ownBlock) (ho : w1.ownsRow 0 98 2 v' ks.length (flatF ks)) (hf : ∀ g, v'.ownBlock = some g → v.ownBlock = some g ∨ w.heap.size ≤ g) :
    Ck (w1.setCell ⟨p, 6, none⟩ v') p v' { s with ks := ks } ∧ Tc w (w1.setCell ⟨p, 6, none⟩ v') p v.ownBlock ∧ (∀ g, v'.ownBlock = some g → v.ownBlock = some g ∨ w.heap.size ≤ g) := by
  have hl := h.lt
  have hne : ∀ g, v'.ownBlock = some g → g ≠ p := fun g hg' e => by
    subst e
    rcases hf g hg' with h1 | h1
    · exact h.ne h1
    · omega
  have hb1 := (hg.block p hl (fun e => h.ne e.symm)).trans h.blk
  refine ⟨⟨by simpa using Joins.block_setCell (i := 6) hb1 v', row_keep ho (fun g hg' => Below.heap_setCell _ _ _ _ (hne g hg')), fun e => hne p e rfl⟩, ⟨hg.os, hg.tape, hg.output, by simpa using hg.size, fun k hk h1 h2 => (Below.heap_setCell _ _ _ _ h1).trans (hg.block k hk h2)⟩, hf⟩

set_option maxRecDepth 100000 in
set_option maxHeartbeats 2000000 in
theorem learn_any (p : Nat) (v : Value) (s : CkS) (g o : Int) (w : World) (h : Ck w p v s) (hl : s.ks.length ≤ 90) (hr : (s.ks.length : Int) < s.en) :
    Calls Try.prog 45 #[.pointer (some ⟨p, 0, none⟩), .agg #[.int .i64 g, .int .i64 o]] w fun e w' => (∃ r, e = .returned r) ∧ ∃ v', Ck w' p v' { s with ks := s.ks ++ [(g, o)] } ∧ Tc w w' p v.ownBlock ∧ (∀ g, v'.ownBlock = some g → v.ownBlock = some g ∨ w.heap.size ≤ g) := by
  have H := Lib.hid h
  obtain ⟨A, cap, rfl, _, hnone⟩ := h.val
  have c4 := h.cells.2.2.2.2.1
  have c6 := h.cells.2.2.2.2.2.2
  have hlt := h.lt
  obtain ⟨i0, hi, hz0, hz1, hz2⟩ := info_parts info_fact
  have HN := Lib.hid hnone
  have e0 : decide ((s.ks.length : Int) ≥ s.en) = false := by simp; omega
  clear h hnone
  go_enter Try.func45, Try.ntmps45
  go_wp2_with fail
  refine region_past (by kernel_rfl) (by kernel_rfl) ?_; (repeat (go_big_quiet_step (fail))); refine wpQuiet_nil ?_; rintro _ ⟨pw, rfl⟩
  obtain ⟨W1, hW1⟩ : ∃ W1, W1 = pw.val := ⟨_, rfl⟩
  have hb1 : Below w.heap.size w W1 := by rw [hW1]; exact ext_trans (ext_alloc _ (Below.refl _ _)) pw.below
  have hbx : W1.heap[w.heap.size]? = some (.cells #[.int .i64 g, .int .i64 o] 98 (0, 0)) := by rw [hW1]; exact (pw.below.block _ (by simp)).trans (alNew rfl)
  rw [← hW1]
  clear hW1
  have H1 := H.out.ext hb1
  have d4 := H1.cells.2.2.2.2.1
  have d6 := H1.cells.2.2.2.2.2.2
  have dl := H1.lt
  have df := H1.free 6
  have hxl := lt_of hbx
  have x0 : W1.cell? ⟨w.heap.size, 0, none⟩ = some (.int .i64 g) := by simp [World.cell?, hbx]
  have x1 : W1.cell? ⟨w.heap.size, 1, none⟩ = some (.int .i64 o) := by simp [World.cell?, hbx]
  have HB1 := Lib.hid hb1
  have H1h := Lib.hid H1
  clear hb1 hbx H1 c4 c6 pw
  go_wp2_with fail
  have HO : Hid ((W1.drew.alloc (.cells #[.int .i64 g, .int .i64 o] 98)).ownsRow 0 98 2 (.slice A s.ks.length cap) s.ks.length (flatF s.ks)) := Lib.hid (row_keep H1h.out.own (fun q hq => Below.heap_alloc _ _ _ (H1h.out.own.lt q hq).2))
  have HNw : Hid (∀ j u, [Value.int .i64 g, Value.int .i64 o][j]? = some u → (W1.drew.alloc (.cells #[.int .i64 g, .int .i64 o] 98)).cell? ((⟨W1.heap.size, 0, none⟩ : Addr).add j) = some u) := Lib.hid (fun j u hu => by
    rw [Addr.add_lit, Nat.zero_add]
    unfold World.cell?
    rw [show (W1.drew.alloc (.cells #[.int .i64 g, .int .i64 o] 98)).heap[W1.heap.size]? = _ from alNew rfl]
    simpa using hu)
  go_region_law (refine step_append_full _ rfl (.tmp 26) (.tmp 28) 91 rfl 0 98 i0 (.agg #[.int .i64 0, .int .i64 0]) 2 16 Try.underlying91 hi hz0 hz1 hz2 rfl (by decide) (.slice A s.ks.length cap) s.ks.length (flatF s.ks) (by simp [Act.eval]) HO.out (some ⟨W1.heap.size, 0, none⟩) 1 1 [.int .i64 g, .int .i64 o] (by simp [Act.eval]) (fun e => by cases e) rfl (fun ad e => by cases e; exact HNw.out) (by intro u hu; simp at hu; rcases hu with rfl | rfl <;> rfl) (by unfold maxLen; omega) (by omega) (Nat.zero_le _) ?_; intro A3 c3 w2 h3 ho hg hf3; have hk := (hg.block p (by simp; omega) (fun e => H1h.out.ne e.symm)).trans (Below.heap_alloc _ _ _ dl); have q6 := (World.cell?_of_block (a := ⟨p, 6, none⟩) hk).trans d6; have qf := (World.frozen?_of_block (a := ⟨p, 6, none⟩) hk).trans df; have HG2 := Lib.hid (And.intro ho (And.intro hg hf3)); clear ho hg hf3 h3 hk)
  all_goals
    obtain ⟨ho, hg, hf3⟩ := HG2.out
    have hs1 := HB1.out.size
    have hgW : W1.grownBy w2 (Value.slice A s.ks.length cap).ownBlock := ⟨hg.os, hg.tape, hg.output, Nat.le_trans (by simp) hg.size, fun k hk hn => (hg.block k (by simp; omega) hn).trans (Below.heap_alloc _ _ _ hk)⟩
    have HE := Lib.hid (H1h.out.known (ks := s.ks ++ [(g, o)]) hgW (by simpa [flatF] using ho) (fun q hq => (hf3 q hq).imp id (fun h => Nat.le_trans (by simp) h)))
    clear ho hg hf3 hgW HG2
    go_wp2_with fail
    go_end0
    obtain ⟨e1, e2, e3⟩ := HE.out
    exact ⟨⟨_, rfl⟩, _, e1, (Tc.of_below HB1.out).trans e2 (fun q hq => .inl hq), fun q hq => (e3 q hq).imp id (fun h => Nat.le_trans hs1 h)⟩

set_option maxRecDepth 100000 in
set_option maxHeartbeats 2000000 in
theorem learn_full (p : Nat) (v : Value) (s : CkS) (g o : Int) (w : World) (h : Ck w p v s) (hl : s.ks.length ≤ 90) (hr : s.en ≤ (s.ks.length : Int)) (h0 : 0 < s.ks.length) :
    Calls Try.prog 45 #[.pointer (some ⟨p, 0, none⟩), .agg #[.int .i64 g, .int .i64 o]] w fun e w' => (∃ r, e = .returned r) ∧ ∃ v', Ck w' p v' { s with ks := s.ks.tail ++ [(g, o)] } ∧ Tc w w' p v.ownBlock ∧ (∀ g, v'.ownBlock = some g → v.ownBlock = some g ∨ w.heap.size ≤ g) := by
  have H := Lib.hid h
  obtain ⟨A, cap, rfl, _, hnone⟩ := h.val
  obtain ⟨a, rfl⟩ : ∃ a, A = some a := by
    cases A with
    | none => have := (hnone rfl).1; omega
    | some a => exact ⟨a, rfl⟩
  obtain ⟨gb, cur, rfl, _⟩ := row_open h.own
  have c4 := h.cells.2.2.2.2.1
  have c6 := h.cells.2.2.2.2.2.2
  have hlt := h.lt
  obtain ⟨i0, hi, hz0, hz1, hz2⟩ := info_parts info_fact
  have e0 : decide ((s.ks.length : Int) ≥ s.en) = true := by simp; omega
  have hne : p ≠ gb := fun e => h.ne (by rw [e]; rfl)
  clear h hnone
  go_enter Try.func45, Try.ntmps45
  go_wp2_with fail
  refine region_past (by kernel_rfl) (by kernel_rfl) ?_; (repeat (go_big_quiet_step (fail))); refine wpQuiet_nil ?_; rintro _ ⟨pw, rfl⟩
  obtain ⟨W1, hW1⟩ : ∃ W1, W1 = pw.val := ⟨_, rfl⟩
  have hb1 : Below w.heap.size w W1 := by rw [hW1]; exact ext_trans (ext_alloc _ (Below.refl _ _)) pw.below
  have hbx : W1.heap[w.heap.size]? = some (.cells #[.int .i64 g, .int .i64 o] 98 (0, 0)) := by rw [hW1]; exact (pw.below.block _ (by simp)).trans (alNew rfl)
  rw [← hW1]
  clear hW1
  have H1 := H.out.ext hb1
  have d6 := H1.cells.2.2.2.2.2.2
  have dl := H1.lt
  have hxl := lt_of hbx
  have HB1 := Lib.hid hb1
  have H1h := Lib.hid H1
  have HX1 := Lib.hid hbx
  have hgl := (H1.own.lt gb rfl).2
  have hxg : w.heap.size ≠ gb := by have := (H.out.own.lt gb rfl).2; omega
  clear hb1 hbx H1 c4 c6 pw
  go_wp2_with fail
  refine (delete1_any gb cap s.ks _ H1h.out.own h0 (by omega)).mono ?_
  rintro e w2 ⟨rfl, hc⟩
  have hkp := hc.grown.block p dl (fun e => hne (Option.some.inj e))
  have d6' := (World.cell?_of_block (a := ⟨p, 6, none⟩) hkp).trans d6
  have df' := (World.frozen?_of_block (a := ⟨p, 6, none⟩) hkp).trans (H1h.out.free 6)
  have hk2 := H1h.out.known (ks := s.ks.tail) (v' := .slice (some ⟨gb, 0, none⟩) (s.ks.length - 1) cap) hc.grown (by have := hc.row; rw [List.length_tail] at this ⊢; exact this) (fun q hq => .inl hq)
  have hbx2 : (w2.setCell ⟨p, 6, none⟩ (.slice (some ⟨gb, 0, none⟩) (s.ks.length - 1) cap)).heap[w.heap.size]? = some (.cells #[.int .i64 g, .int .i64 o] 98 (0, 0)) := (Below.heap_setCell _ _ _ _ (by simp; omega)).trans ((hc.grown.block _ hxl (fun e => hxg (Option.some.inj e))).trans HX1.out)
  have HX2 := Lib.hid hbx2
  have HK2 := Lib.hid hk2
  have hsl := hc.grown.size
  have hp2 : p < w2.heap.size := by omega
  clear hc hkp hbx2 hk2 d6
  go_wp2_with fail
  clear d6' df'
  obtain ⟨W3, hW3⟩ : ∃ W3, W3 = w2.setCell ⟨p, 6, none⟩ (.slice (some ⟨gb, 0, none⟩) (s.ks.length - 1) cap) := ⟨_, rfl⟩
  rw [← hW3]
  have H3h : Hid (Ck W3 p (.slice (some ⟨gb, 0, none⟩) (s.ks.length - 1) cap) { s with ks := s.ks.tail }) := Lib.hid (by rw [hW3]; exact HK2.out.1)
  have HT3 : Hid (Tc W1 W3 p (some gb)) := Lib.hid (by rw [hW3]; exact HK2.out.2.1)
  have hbx3 : W3.heap[w.heap.size]? = some (.cells #[.int .i64 g, .int .i64 o] 98 (0, 0)) := by rw [hW3]; exact HX2.out
  have hsz : Hid (w.heap.size ≤ W3.heap.size) := Lib.hid (Nat.le_trans HB1.out.size HT3.out.size)
  clear hW3
  have d6 := H3h.out.cells.2.2.2.2.2.2
  have dl := H3h.out.lt
  have df := H3h.out.free 6
  have hxl := lt_of hbx3
  have x0 : W3.cell? ⟨w.heap.size, 0, none⟩ = some (.int .i64 g) := by simp [World.cell?, hbx3]
  have x1 : W3.cell? ⟨w.heap.size, 1, none⟩ = some (.int .i64 o) := by simp [World.cell?, hbx3]
  have hrow3 : Hid (W3.ownsRow 0 98 2 (.slice (some ⟨gb, 0, none⟩) (s.ks.length - 1) cap) (s.ks.length - 1) (flatF s.ks.tail)) := Lib.hid (by have := H3h.out.own; dsimp only at this; rw [List.length_tail] at this; exact this)
  clear hbx3
  go_wp2_with fail
  have HO : Hid ((W3.drew.alloc (.cells #[.int .i64 g, .int .i64 o] 98)).ownsRow 0 98 2 (.slice (some ⟨gb, 0, none⟩) (s.ks.length - 1) cap) (s.ks.length - 1) (flatF s.ks.tail)) := Lib.hid (row_keep hrow3.out (fun q hq => Below.heap_alloc _ _ _ (hrow3.out.lt q hq).2))
  have HNw : Hid (∀ j u, [Value.int .i64 g, Value.int .i64 o][j]? = some u → (W3.drew.alloc (.cells #[.int .i64 g, .int .i64 o] 98)).cell? ((⟨W3.heap.size, 0, none⟩ : Addr).add j) = some u) := Lib.hid (fun j u hu => by
    rw [Addr.add_lit, Nat.zero_add]
    unfold World.cell?
    rw [show (W3.drew.alloc (.cells #[.int .i64 g, .int .i64 o] 98)).heap[W3.heap.size]? = _ from alNew rfl]
    simpa using hu)
  go_region_law (refine step_append_full _ rfl (.tmp 26) (.tmp 28) 91 rfl 0 98 i0 (.agg #[.int .i64 0, .int .i64 0]) 2 16 Try.underlying91 hi hz0 hz1 hz2 rfl (by decide) (.slice (some ⟨gb, 0, none⟩) (s.ks.length - 1) cap) (s.ks.length - 1) (flatF s.ks.tail) (by simp [Act.eval]) HO.out (some ⟨W3.heap.size, 0, none⟩) 1 1 [.int .i64 g, .int .i64 o] (by simp [Act.eval]) (fun e => by cases e) rfl (fun ad e => by cases e; exact HNw.out) (by intro u hu; simp at hu; rcases hu with rfl | rfl <;> rfl) (by unfold maxLen; omega) (by omega) (Nat.zero_le _) ?_; intro A3 c3 w2 h3 ho hg hf3; have hk := (hg.block p (by simp; omega) (fun e => H3h.out.ne e.symm)).trans (Below.heap_alloc _ _ _ dl); have q6 := (World.cell?_of_block (a := ⟨p, 6, none⟩) hk).trans d6; have qf := (World.frozen?_of_block (a := ⟨p, 6, none⟩) hk).trans df; have HG2 := Lib.hid (And.intro ho (And.intro hg hf3)); clear ho hg hf3 h3 hk)
  all_goals
    obtain ⟨ho, hg, hf3⟩ := HG2.out
    have hs1 := hsz.out
    have hgW : W3.grownBy w2 (Value.slice (some ⟨gb, 0, none⟩) (s.ks.length - 1) cap).ownBlock := ⟨hg.os, hg.tape, hg.output, Nat.le_trans (by simp) hg.size, fun k hk hn => (hg.block k (by simp; omega) hn).trans (Below.heap_alloc _ _ _ hk)⟩
    have HE := Lib.hid (H3h.out.known (ks := s.ks.tail ++ [(g, o)]) hgW (by rw [show (s.ks.tail ++ [(g, o)]).length = s.ks.length - 1 + 1 by simp, flatF_app]; simpa [flatF] using ho) (fun q hq => (hf3 q hq).imp id (fun h => Nat.le_trans (by simp) h)))
    clear ho hg hf3 hgW HG2
    go_wp2_with fail
    go_end0
    obtain ⟨e1, e2, e3⟩ := HE.out
    refine ⟨⟨_, rfl⟩, _, e1, ((Tc.of_below HB1.out).trans HT3.out (fun q hq => .inl hq)).trans e2 (fun q hq => .inl hq), fun q hq => ?_⟩
    rcases e3 q hq with h | h
    · exact .inl h
    · exact .inr (Nat.le_trans hs1 h)

end Go.Proofs.Ytjggnhcdnfmmeaa
