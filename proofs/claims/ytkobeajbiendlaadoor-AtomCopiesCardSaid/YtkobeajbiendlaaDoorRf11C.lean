/- What this text holds: the document's machine: a call of the monitor. No condition. -/
import Derived.Test.YtkobeajbiendlaaDoorRf11B
namespace Go.Proofs.YtkobeajbiendlaaDoor
open Go.RowKit

section
variable {w : World} {lo hi q bL bO bW cl co cw : Nat} {P : Nat → Value} {M : Ma}
theorem Dk.as {N : Ma} (h : Dk w lo hi q bL bO bW cl co cw P M) (hc : N.m.c = M.m.c) (hs : N.se = M.se) (ho : N.ow = M.ow) (hw : ∀ k, k < 2 * M.m.n → N.m.wd k = M.m.wd k) : Dk w lo hi q bL bO bW cl co cw P N := by
  have e1 : N.nc = M.nc := by unfold Ma.nc; rw [hc]
  have e2 : N.ng = M.ng := by unfold Ma.ng; rw [hc]
  have e3 : N.m.n = M.m.n := n_cc hc
  have e4 : tab (2 * M.m.n) (intV N.m.wd) = tab (2 * M.m.n) (intV M.m.wd) := tab_ext (fun k hk => by unfold intV; rw [hw k hk])
  refine ⟨by rw [e1, e2, e3]; exact h.top, by rw [e1, hs]; exact h.st, by rw [e2, ho]; exact h.ow, by rw [e3, e4]; exact h.wd, fun i hi' => ?_, h.bd, h.ne, h.sz⟩
  rw [e1] at hi'
  rw [hs]
  exact h.pg i hi'
theorem Rg.cell {lo hi b : Nat} {a c : World} (h : Rg lo hi a c) (hb : lo ≤ b ∧ b < hi) (o : Nat) (v : Value) : Rg lo hi a (c.setCell ⟨b, o, none⟩ v) :=
  ⟨h.os, h.tape, h.output, by simpa using h.size, fun k hk hd => (Below.heap_setCell c _ _ k (by simp; omega)).trans (h.block k hk hd)⟩
theorem Rg.box2 {lo hi bx : Nat} {a b d : World} (h : Rg lo hi a b) (hg : b.grownBy d (some bx)) (hb : a.heap.size ≤ bx) : Rg lo hi a d :=
  ⟨hg.os.trans h.os, hg.tape.trans h.tape, hg.output.trans h.output, Nat.le_trans h.size hg.size, fun k hk hc => (hg.block k (Nat.lt_of_lt_of_le hk h.size) (fun e => by have := Option.some.inj e; omega)).trans (h.block k hk hc)⟩
theorem Rg.extr2 {lo hi : Nat} {a b d : World} (h : Rg lo hi a b) (k : Below b.heap.size b d) : Rg lo hi a d :=
  ⟨k.os.trans h.os, k.tape.trans h.tape, k.output.trans h.output, Nat.le_trans h.size k.size, fun j hj hc => (k.block j (Nat.lt_of_lt_of_le hj h.size)).trans (h.block j hj hc)⟩
/-- Words of a granule turned to 0, so many of them. -/
def zed (f : Nat → Int) (g j : Nat) : Nat → Int := fun k => if 4 * g ≤ k ∧ k < 4 * g + j then 0 else f k
theorem zed_next (f : Nat → Int) (g j : Nat) : updN (zed f g j) (4 * g + j) 0 = zed f g (j + 1) := by
  funext k
  unfold zed updN
  dsimp only
  by_cases h : k = 4 * g + j
  · rw [if_pos h, if_pos (by omega)]
  · rw [if_neg h]
    by_cases h2 : 4 * g ≤ k ∧ k < 4 * g + j
    · rw [if_pos h2, if_pos (by omega)]
    · rw [if_neg h2, if_neg (by omega)]
set_option maxRecDepth 100000 in
set_option maxHeartbeats 4000000 in
theorem dcall_any (h : Dk w lo hi q bL bO bW cl co cw P M) (hg : M.Good) (ca wo gr tw : Int) (busy : Bool) :
    Calls Tryd.prog 81 #[.pointer (some ⟨q, 0, none⟩), .int .i64 ca, .int .i64 wo, .int .i64 gr, .int .i64 tw, .bool busy] w fun e w' => e = .returned (.int .i64 (M.call ca wo gr tw busy).1) ∧ Dk w' lo hi q bL bO bW cl co cw P (M.call ca wo gr tw busy).2 ∧ Rg lo hi w w' := by
  obtain ⟨t0, t1, t2⟩ := h.tops
  obtain ⟨l1, l2, l3, l4⟩ := h.lt
  have hn4 := Ma.n_of hg.1
  have H := Lib.hid h
  by_cases h0 : gr < 0 ∨ (M.ng : Int) ≤ gr
  · have hm : M.call ca wo gr tw busy = (10, M) := by unfold Ma.call; rw [if_pos h0]
    rw [hm]
    clear hm hn4 h
    cases e1 : decide (gr < 0)
    · have e2 : decide (gr ≥ (M.ng : Int)) = true := by simp at e1 ⊢; omega
      clear h0
      go_enter Tryd.func81, Tryd.ntmps81
      go_wp2_with fail
      go_ret
      exact ⟨rfl, H.out, Rg.refl _ _ _⟩
    · clear h0
      go_enter Tryd.func81, Tryd.ntmps81
      go_wp2_with fail
      go_ret
      exact ⟨rfl, H.out, Rg.refl _ _ _⟩
  obtain ⟨g, rfl⟩ : ∃ g : Nat, gr = g := ⟨gr.toNat, by omega⟩
  have hgl : g < M.ng := by omega
  have hgl' : (g : Int) < (M.ng : Int) := by omega
  have e1 : decide ((g : Int) < 0) = false := by simp
  have e2 : decide ((g : Int) ≥ (M.ng : Int)) = false := by simp; omega
  have e2' : decide (M.ng ≤ g) = false := by simp; omega
  have hg16 : (g : Int) ≤ 16 := by omega
  cases busy
  case true =>
    have hm : M.call ca wo g tw true = (17, M) := by unfold Ma.call; rw [if_neg h0]; rfl
    rw [hm]
    clear hm h0 hn4 h
    go_enter Tryd.func81, Tryd.ntmps81
    go_wp2_with fail
    go_ret
    exact ⟨rfl, H.out, Rg.refl _ _ _⟩
  have ho := h.own g hgl
  have hj := fun W => rjudge_any ca wo (M.ow g) tw W
  have hm : M.call ca wo g tw false = if (judge ca wo (M.ow g) tw).2.2 ≠ 0 then ((judge ca wo (M.ow g) tw).2.2, M) else (0, if (judge ca wo (M.ow g) tw).2.1 then { M.setOw g (judge ca wo (M.ow g) tw).1 with m := M.m.scrub g } else M.setOw g (judge ca wo (M.ow g) tw).1) := by
    unfold Ma.call
    rw [if_neg h0]
    rfl
  rw [hm]
  obtain ⟨o1, o2⟩ := ho
  generalize judge ca wo (M.ow g) tw = jj at hj ⊢
  obtain ⟨th, sc, cd⟩ := jj
  dsimp only at hj ⊢
  have HJ := Lib.hid hj
  have HG := Lib.hid (And.intro hgl hn4)
  clear hm h0 hj h
  by_cases hc : cd = 0
  case neg =>
    rw [if_pos hc]
    have ec : (cd != 0) = true := by simpa using hc
    clear hc hn4
    go_enter Tryd.func81, Tryd.ntmps81
    go_wp2_with fail
    refine (HJ.out w).mono ?_
    rintro e w1 ⟨rfl, hw⟩
    subst hw
    go_wp2_with fail
    go_ret
    exact ⟨rfl, H.out, Rg.refl _ _ _⟩
  subst hc
  rw [if_neg (by simp)]
  clear hn4
  go_enter Tryd.func81, Tryd.ntmps81
  go_wp2_with fail
  refine (HJ.out w).mono ?_
  rintro e w1 ⟨rfl, hw⟩
  subst hw
  go_wp2_with fail
  have HD1 := Lib.hid (H.out.ow_set g th)
  have HR1 := Lib.hid ((Rg.refl lo hi w1).cell ⟨H.out.bd.2.2.2.2.1, H.out.bd.2.2.2.2.2.1⟩ g (.int .i64 th))
  cases sc
  · refine wp_loop_rounds 1 ?_
    rw [rounds_succ]
    go_wp2_with fail
    go_ret
    exact ⟨rfl, HD1.out, HR1.out⟩
  · go_loopg [16] 4 (fun n s16 wr => ∃ j : Nat, s16 = .int .i64 j ∧ j + n = 4 ∧ Hid (Dk wr lo hi q bL bO bW cl co cw P { M.setOw g th with m := { M.m with wd := zed M.m.wd g j } } ∧ Rg lo hi w1 wr))
    case atStart =>
      refine ⟨0, rfl, rfl, Lib.hid ⟨HD1.out.as rfl rfl rfl (fun k hk => ?_), HR1.out⟩⟩
      show zed M.m.wd g 0 k = M.m.wd k
      unfold zed
      rw [if_neg (by omega)]
    case round =>
      obtain ⟨j, rfl, hj, HX⟩ := hrel
      by_cases hj4 : j < 4
      · have e4 : decide ((j : Int) < 4) = true := by simp; omega
        have hj4' : (j : Int) ≤ 4 := by omega
        have s2 : wr.cell? ⟨q, 2, none⟩ = some (.slice (some ⟨bW, 0, none⟩) (2 * M.m.n) cw) := HX.out.1.tops.2.2
        obtain ⟨m1, m2, m3, m4⟩ := HX.out.1.lt
        obtain ⟨N2, hN2⟩ : ∃ N, N = 2 * M.m.n := ⟨_, rfl⟩
        rw [← hN2] at s2
        have hn7 := HG.out.2.2.2.2.2.2.2
        have hlt : 4 * g + j < 2 * M.m.n := by have := HG.out.1; omega
        obtain ⟨kw, hkw⟩ : ∃ k, k = 4 * g + j := ⟨_, rfl⟩
        have hkw' : 4 * (g : Int) + (j : Int) = (kw : Int) := by omega
        have hkl : (kw : Int) < (N2 : Int) := by omega
        have hwd := HX.out.1.word kw (by rw [hkw]; exact hlt)
        obtain ⟨y1, y2⟩ := hwd
        have HJ4 := Lib.hid (And.intro hj hj4)
        have HKW := Lib.hid hkw
        have HN := Lib.hid (HX.out.1.wd_set kw 0)
        have HR := Lib.hid (HX.out.2.cell ⟨HX.out.1.bd.2.2.2.2.2.2.1, HX.out.1.bd.2.2.2.2.2.2.2⟩ kw (.int .i64 0))
        clear hj hj4 hlt hkw hn7 hN2
        go_wp2_with fail
        go_roundg (4 - (j + 1))
        case measure => have := HJ4.out; omega
        case rel =>
          refine ⟨j + 1, by go_num, by have := HJ4.out; omega, Lib.hid ⟨?_, HR.out⟩⟩
          have hn := HN.out
          refine hn.as rfl rfl rfl (fun k hk => ?_)
          show zed M.m.wd g (j + 1) k = updN (zed M.m.wd g j) kw 0 k
          rw [HKW.out, zed_next]
      · have e4 : decide ((j : Int) < 4) = false := by simp; omega
        obtain rfl : j = 4 := by omega
        clear hj hj4
        go_wp2_with fail
        go_ret
        refine ⟨rfl, HX.out.1.as rfl rfl rfl (fun k hk => ?_), HX.out.2⟩
        show (M.m.scrub g).wd k = zed M.m.wd g 4 k
        rw [scrub_wd]
        unfold zed
        by_cases hk4 : k / 4 = g
        · rw [if_pos hk4, if_pos (by omega)]
        · rw [if_neg hk4, if_neg (by omega)]
end
end Go.Proofs.YtkobeajbiendlaaDoor
