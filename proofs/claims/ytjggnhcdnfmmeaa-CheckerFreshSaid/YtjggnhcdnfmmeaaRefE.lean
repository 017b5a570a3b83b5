/- What this text holds: the document's answer for a checker takes a word: weakly. No condition. -/
import Derived.Test.YtjggnhcdnfmmeaaRefD
import Derived.Test.YtjggnhcdnfmmeaaRefM
import Derived.Test.YtjggnhcdnfmmeaaChkW
namespace Go.Proofs.Ytjggnhcdnfmmeaa
open Go.RowKit

/-- A number, a truth value and an error come back. -/
def Trio (e : Ending) : Prop := ∃ (a : Int) (b : Bool) (c : Int), e = .returned (.tuple #[.int .i64 a, .bool b, .int .i64 c])

set_option maxRecDepth 100000 in
set_option maxHeartbeats 4000000 in
theorem rwalked (p : Nat) (u v : Value) (s : RfS) (x y : Int) (n : Nat) (w : World) (h : Rf w p u v s) (hl : (s.xs.length : Int) ≤ s.en) (_he : 1 ≤ s.en ∧ s.en ≤ 8) (_hg : s.gr = (n : Nat)) (_hn : n ≤ 16) :
    Calls Try.prog 36 #[.pointer (some ⟨p, 0, none⟩), .int .i64 x, .int .i64 y] w fun e w' => Trio e ∧ RPost w w' p u v s := by
  have H := Lib.hid h
  have c1 := h.cells.2.1
  have c4 := h.cells.2.2.2.2.1
  have c5 := h.cells.2.2.2.2.2.1
  have c6 := h.cells.2.2.2.2.2.2
  have hf := h.free
  have hlt := h.lt
  rw [_hg] at c1
  have HE := Lib.hid _he
  have HG := Lib.hid _hg
  have HN := Lib.hid _hn
  clear h _he _hg _hn
  by_cases h1 : s.wk < 0
  · have e1 : decide (s.wk < 0) = true := by simpa using h1
    go_enter Try.func36, Try.ntmps36
    go_wp2_with fail
    go_ret3
    exact ⟨⟨0, false, 16, rfl⟩, H.out.same (Below.refl _ _) hl⟩
  · have e1 : decide (s.wk < 0) = false := by simp; omega
    cases h2 : (x != s.a)
    · cases h3 : s.st
      · rw [h3] at c6
        go_enter Try.func36, Try.ntmps36
        go_wp2_with fail
        go_cut [9, 10, 11] from 42 to 56 (fun s9 s10 s11 wc => ∃ (a b o : Int) (l : Bool) (bx : Nat), s9 = .int .i64 a ∧ s10 = .int .i64 b ∧ s11 = .pointer (some ⟨bx, 0, none⟩) ∧ Hid (wc.heap[bx]? = some (.cells #[.int .i64 o, .bool l] 116 (0, 0)) ∧ w.heap.size ≤ bx ∧ Below w.heap.size w wc))
        case first =>
          have QQ := And.intro c1 c4
          have hl1 := hlt
          go_region_held3 (fun w' => w'.cell? ⟨p, 1, none⟩ = some (.int .i64 n) ∧ w'.cell? ⟨p, 4, none⟩ = some (.int .i64 s.wk))
            (first | exact QQ | exact ⟨(set2_cell (by simp; omega)).trans QQ.1, (set2_cell (by simp; omega)).trans QQ.2⟩ | exact ⟨(((Below.refl _ _).alloc (Nat.le_refl _) _).cell (p := ⟨p, 1, none⟩) hl1).trans QQ.1, (((Below.refl _ _).alloc (Nat.le_refl _) _).cell (p := ⟨p, 4, none⟩) hl1).trans QQ.2⟩)
            (first
              | (go_at_call 53; have hq := step_any n s.wk x y w.drew HN.out; refine hq.mono ?_; clear hq; rintro e w1 ⟨⟨a, b, o, l, rfl⟩, hb⟩; have HB := Lib.hid (un_drew hb); have hl1 : p < w1.heap.size := Nat.lt_of_lt_of_le hlt HB.out.size; have QQ := And.intro ((HB.out.cell (p := ⟨p, 1, none⟩) hlt).trans c1) ((HB.out.cell (p := ⟨p, 4, none⟩) hlt).trans c4); clear hb)
              | (go_at_call 53; have hq := step_any n s.wk x y (w.alloc (.cells #[.int .i64 0, .bool false] 116)).drew HN.out; refine hq.mono ?_; clear hq; rintro e w1 ⟨⟨a, b, o, l, rfl⟩, hb⟩; have HB : Hid (Below w.heap.size w w1) := Lib.hid (ext_next hb (ext_drew (ext_alloc _ (Below.refl _ _)))); have hbx : w1.heap[w.heap.size]? = some (.cells #[.int .i64 0, .bool false] 116 (0, 0)) := (hb.block w.heap.size (by simp)).trans (alNew rfl); have x0 : w1.cell? ⟨w.heap.size, 0, none⟩ = some (.int .i64 0) := (by simp [World.cell?, hbx]); have x1 : w1.cell? ⟨w.heap.size, 1, none⟩ = some (.bool false) := (by simp [World.cell?, hbx]); have xf : ∀ i, w1.frozen? ⟨w.heap.size, i, none⟩ = false := fun i => (by simp [World.frozen?, hbx]); have xl := lt_of hbx; have HX := Lib.hid hbx; have hl1 : p < w1.heap.size := Nat.lt_of_lt_of_le hlt HB.out.size; have QQ := And.intro ((HB.out.cell (p := ⟨p, 1, none⟩) hlt).trans c1) ((HB.out.cell (p := ⟨p, 4, none⟩) hlt).trans c4); clear hb hbx))
          all_goals (try go_wp2_with fail)
          all_goals go_meet
          all_goals first
            | exact ⟨_, _, _, _, _, rfl, rfl, rfl, Lib.hid ⟨alNew rfl, HB.out.size, ext_alloc _ HB.out⟩⟩
            | exact ⟨_, _, _, _, _, rfl, rfl, rfl, Lib.hid ⟨by simpa using Joins.block_setCell (i := 1) (Joins.block_setCell (i := 0) HX.out (.int .i64 o)) (.bool l), Nat.le_refl _, (HB.out.setCell (p := ⟨w.heap.size, 0, none⟩) (Nat.le_refl _) _).setCell (p := ⟨w.heap.size, 1, none⟩) (Nat.le_refl _) _⟩⟩
        case rest =>
          obtain ⟨a, b, o, l, bx, rfl, rfl, rfl, HC⟩ := hcut
          have x0 : wc.cell? ⟨bx, 0, none⟩ = some (.int .i64 o) := by have := HC.out.1; simp [World.cell?, this]
          have x1 : wc.cell? ⟨bx, 1, none⟩ = some (.bool l) := by have := HC.out.1; simp [World.cell?, this]
          have xl := lt_of HC.out.1
          have HB := Lib.hid HC.out.2.2
          have H1 := Lib.hid (H.out.ext HB.out)
          have hlc := H1.out.lt
          have hfc := H1.out.free
          have d4 := H1.out.cells.2.2.2.2.1
          have d5 := H1.out.cells.2.2.2.2.2.1
          have HS1 := Lib.hid (fun z => Joins.block_setCell (i := 5) H1.out.blk (.int .i64 z))
          clear c1 c4 c5 c6 hf
          cases h4 : (a == 0)
          · cases h5 : (a == 1)
            · cases l
              · have hlen := Lib.hid H1.out.len
                have HLE := Lib.hid H1.out.le
                have d0 := H1.out.cells.1
                have d2 := H1.out.cells.2.2.1
                have d3 := H1.out.cells.2.2.2.1
                obtain ⟨A, cA, rfl, _, hcA⟩ := H1.out.gx.form
                obtain ⟨B, cB, rfl, _, hcB⟩ := H1.out.gy.form
                have HM0 := Lib.hid (Md.begin H.out HB.out HC.out.1 HC.out.2.1)
                go_wp2_with fail
                clear x0 x1 d4 d5 HS1
                refine region_past (by kernel_rfl) (by kernel_rfl) ?_; (repeat (go_big_quiet_step (fail))); refine wpQuiet_nil ?_; rintro _ ⟨pw, rfl⟩
                obtain ⟨W2, hW2⟩ : ∃ W2, W2 = pw.val := ⟨_, rfl⟩
                have hb2 : Below wc.heap.size wc W2 := by rw [hW2]; exact pw.below
                rw [← hW2]
                have HM2 := Lib.hid (HM0.out.ext hb2)
                obtain ⟨c2, c3, c4, c5, cf, cl, cb⟩ := HM2.out.cells
                clear hW2 pw hb2 xl d0 d2 d3 hfc hlc
                go_upto_if 89 with (fail)
                go_cut [] from 80 to 106 (fun wd => Hid (∃ u1 v1 xs1 ys1, Md w wd p bx o (.slice A s.xs.length cA) (.slice B s.ys.length cB) s u1 v1 xs1 ys1 ∧ xs1.length = ys1.length ∧ (xs1.length : Int) + 1 ≤ s.en))
                case first =>
                  by_cases h6 : (s.xs.length : Int) = s.en
                  · have e6 : ((s.xs.length : Int) == s.en) = true := by simpa using h6
                    have hpos : 0 < s.xs.length := by have := HE.out; omega
                    have hpos2 : 0 < s.ys.length := by rw [← hlen.out]; exact hpos
                    have HP := Lib.hid (And.intro hpos hpos2)
                    have i1 : (1 : Int) ≤ (s.xs.length : Int) := by omega
                    have i2 : (1 : Int) ≤ (s.ys.length : Int) := by omega
                    have j1 : 1 ≤ cA := by omega
                    have j2 : 1 ≤ cB := by omega
                    have H6 := Lib.hid h6
                    clear h6
                    have HCUT : Hid (∀ W, W = (W2.setCell ⟨p, 2, none⟩ (sliced A 1 s.xs.length cA 1)).setCell ⟨p, 3, none⟩ (sliced B 1 s.ys.length cB 1) → ∃ u1 v1 xs1 ys1, Md w W p bx o (.slice A s.xs.length cA) (.slice B s.ys.length cB) s u1 v1 xs1 ys1 ∧ xs1.length = ys1.length ∧ (xs1.length : Int) + 1 ≤ s.en) := Lib.hid (fun W hW => by
                      obtain ⟨x0, xt, hxe⟩ : ∃ x xt, s.xs = x :: xt := List.exists_cons_of_length_pos HP.out.1
                      obtain ⟨y0, yt, hye⟩ : ∃ y yt, s.ys = y :: yt := List.exists_cons_of_length_pos HP.out.2
                      have h2 : Md w W2 p bx o (.slice A s.xs.length cA) (.slice B s.ys.length cB) s (.slice A s.xs.length cA) (.slice B s.ys.length cB) (x0 :: xt) (y0 :: yt) := by rw [← hxe, ← hye]; exact HM2.out
                      have h3 := h2.cut
                      rw [← hW] at h3
                      have l1 : s.xs.length = xt.length + 1 := by rw [hxe]; rfl
                      have l2 : s.ys.length = yt.length + 1 := by rw [hye]; rfl
                      have := hlen.out
                      have := H6.out
                      exact ⟨_, _, xt, yt, h3, by omega, by omega⟩)
                    go_wp2_with fail
                    all_goals
                      go_meet
                      exact Lib.hid (HCUT.out _ (by first | (simp [sliced, ‹cA = 1›, ‹cB = 1›]; done) | (simp [sliced, Addr.add, ‹cA = 1›, ‹¬cB = 1›]; done) | (simp [sliced, Addr.add, ‹¬cA = 1›, ‹cB = 1›]; done) | (simp [sliced, Addr.add, ‹¬cA = 1›, ‹¬cB = 1›]; done)))
                  · have e6 : ((s.xs.length : Int) == s.en) = false := by simpa using h6
                    have H6 := Lib.hid h6
                    clear h6
                    go_wp2_with fail
                    go_meet
                    exact Lib.hid ⟨_, _, _, _, HM2.out, hlen.out, by have := H6.out; omega⟩
                case rest =>
                  clear HM2 HM0 c2 c3 c4 c5 cf cl cb
                  obtain ⟨u1, v1, xs1, ys1, hM, hl1, hl2⟩ := hcut.out
                  have HM := Lib.hid hM
                  obtain ⟨A1, cA1, rfl, _, hcA1⟩ := hM.gx.form
                  obtain ⟨B1, cB1, rfl, _, hcB1⟩ := hM.gy.form
                  obtain ⟨c2, c3, c4, c5, cf, cl, cb⟩ := hM.cells
                  have hx8 : xs1.length ≤ 8 := by have := HE.out; omega
                  have HL1 := Lib.hid hl1
                  have HL2 := Lib.hid hl2
                  clear hM hl1 hl2 hcut
                  go_wp2_with fail
                  have HRx := Lib.hid (HM.out.gx.ext (w' := wc.drew.alloc (.cells #[.int .i64 s.wk] 3)) (ext_alloc _ (ext_drew (Below.refl _ _))))
                  go_region_law (refine step_append_off rfl (.tmp 110) (.tmp 115) rfl _ xs1 (by simp [Act.eval]) HRx.out ⟨wc.heap.size, 0, none⟩ 1 s.wk (by simp [Act.eval]) (cell_new1 wc.drew _ _) (by omega) ?_; intro v3 w3 r3 g3 f3; obtain ⟨A3, c3', rfl, _, _⟩ := r3.form; have hk := (g3.block p (by simp; omega) (fun e => HM.out.nu e.symm)).trans (Below.heap_alloc wc.drew (.cells #[.int .i64 s.wk] 3) p cl); have q2 := (World.cell?_of_block (a := ⟨p, 2, none⟩) hk).trans c2; have qf := (World.frozen?_of_block (a := ⟨p, 2, none⟩) hk).trans (cf 2); have HG3 := Lib.hid (And.intro r3 (And.intro g3 f3)); clear r3 g3 f3 hk)
                  all_goals
                    have hm3 := (HM.out.ext (we := (wc.alloc (.cells #[.int .i64 s.wk] 3)).drew) (ext_drew (ext_alloc _ (Below.refl _ _)))).appX HG3.out.1 HG3.out.2.1 HG3.out.2.2
                    rw [show (xs1 ++ [s.wk]).length = xs1.length + 1 by simp] at hm3
                    obtain ⟨W3, hW3⟩ : ∃ W3, W3 = w3.setCell ⟨p, 2, none⟩ (.slice A3 (xs1.length + 1) c3') := ⟨_, rfl⟩
                    rw [← hW3] at hm3 ⊢
                    have HM3 := Lib.hid hm3
                    obtain ⟨d2, d3, d4, d5, df, dl, db⟩ := hm3.cells
                    clear hW3 HG3 hm3 q2 qf c2 c3 c4 c5 cf cl cb
                    have hy8 : ys1.length ≤ 8 := by have := HL1.out; omega
                    go_wp2_with fail
                    have HRy := Lib.hid (HM3.out.gy.ext (w' := W3.drew.alloc (.cells #[.int .i64 o] 3)) (ext_alloc _ (ext_drew (Below.refl _ _))))
                    go_region_law (refine step_append_off rfl (.tmp 123) (.tmp 126) rfl _ ys1 (by simp [Act.eval]) HRy.out ⟨W3.heap.size, 0, none⟩ 1 o (by simp [Act.eval]) (cell_new1 W3.drew _ _) (by omega) ?_; intro v5 w5 r5 g5 f5; obtain ⟨A5, c5', rfl, _, _⟩ := r5.form; have hk5 := (g5.block p (by simp; omega) (fun e => HM3.out.nv e.symm)).trans (Below.heap_alloc W3.drew (.cells #[.int .i64 o] 3) p dl); have q3 := (World.cell?_of_block (a := ⟨p, 3, none⟩) hk5).trans d3; have qf5 := (World.frozen?_of_block (a := ⟨p, 3, none⟩) hk5).trans (df 3); have HG5 := Lib.hid (And.intro r5 (And.intro g5 f5)); clear r5 g5 f5 hk5)
                    all_goals
                      have hm5 := (HM3.out.ext (we := (W3.alloc (.cells #[.int .i64 o] 3)).drew) (ext_drew (ext_alloc _ (Below.refl _ _)))).appY HG5.out.1 HG5.out.2.1 HG5.out.2.2
                      rw [show (ys1 ++ [o]).length = ys1.length + 1 by simp] at hm5
                      obtain ⟨W5, hW5⟩ : ∃ W5, W5 = w5.setCell ⟨p, 3, none⟩ (.slice A5 (ys1.length + 1) c5') := ⟨_, rfl⟩
                      rw [← hW5] at hm5 ⊢
                      have HM5 := Lib.hid hm5
                      obtain ⟨m2, m3, m4, m5, mf, ml, mb⟩ := hm5.cells
                      clear hW5 HG5 hm5 q3 qf5 d2 d3 d4 d5 df dl db
                      go_wp2_with fail
                      go_ret3
                      exact ⟨⟨0, true, 0, rfl⟩, HM5.out.post (by have := HL1.out; simp; omega) (by have := HL2.out; simp; omega) HE.out.2 rfl⟩
              · go_wp2_with fail
                go_ret3
                refine ⟨⟨wrap64 (s.wk.tdiv 4), false, 0, rfl⟩, H1.out.wrote HB.out hl ⟨s.en, s.gr, s.wk, wrap64 (s.wk.tdiv 4), s.st, s.xs, s.ys⟩ rfl rfl rfl rfl (by simpa using HS1.out _) (fun k hk => ?_) rfl rfl rfl (by simp)⟩
                rw [Below.heap_setCell _ _ _ _ hk]
            · go_wp2_with fail
              go_ret3
              refine ⟨⟨b, false, 0, rfl⟩, H1.out.wrote HB.out hl ⟨s.en, s.gr, s.wk, b, s.st, s.xs, s.ys⟩ rfl rfl rfl rfl (by simpa using HS1.out _) (fun k hk => ?_) rfl rfl rfl (by simp)⟩
              rw [Below.heap_setCell _ _ _ _ hk]
          · go_wp2_with fail
            go_ret3
            exact ⟨⟨0, false, 14, rfl⟩, H.out.same HB.out hl⟩
      · rw [h3] at c6
        have s2 := Joins.block_setCell (i := 5) (Joins.block_setCell (i := 6) H.out.blk (.bool false)) (.int .i64 (wrap64 (s.wk.tdiv 4)))
        have HS := Lib.hid s2
        clear s2
        go_enter Try.func36, Try.ntmps36
        go_wp2_with fail
        go_ret3
        refine ⟨⟨wrap64 (s.wk.tdiv 4), false, 0, rfl⟩, H.out.wrote (Below.refl _ _) hl ⟨s.en, s.gr, s.wk, wrap64 (s.wk.tdiv 4), false, s.xs, s.ys⟩ rfl rfl rfl rfl (by simpa using HS.out) (fun k hk => ?_) rfl rfl rfl (by simp)⟩
        rw [Below.heap_setCell _ _ _ _ hk, Below.heap_setCell _ _ _ _ hk]
    · go_enter Try.func36, Try.ntmps36
      go_wp2_with fail
      go_ret3
      exact ⟨⟨0, false, 1, rfl⟩, H.out.same (Below.refl _ _) hl⟩

end Go.Proofs.Ytjggnhcdnfmmeaa
