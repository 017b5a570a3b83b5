/- What this text holds: the law BankCopies, walked. Condition: the table of limits holds what its initialiser lays. -/
import Derived.Test.YtkfnjpmigifomaaDoorL02D
import Derived.StillTailTactics
namespace Go.Proofs.YtkfnjpmigifomaaDoor
open Go.RowKit Go.Shelf
attribute [local go_sem] Oper.semAt_some

set_option maxRecDepth 100000 in
set_option maxHeartbeats 2000000 in
theorem copies_no {w : World} {c : Cfg} {A B : Option Addr} {n n' cap cap' : Nat} (hL : Lims w) (h : ¬ c.ok ∨ 60 < n ∨ 60 < n') :
    Calls Tryd.prog 5 #[.agg #[.int .i64 c.co, .int .i64 c.gr, .int .i64 c.se, .int .i64 c.wa, .int .i64 c.de, .int .i64 c.en, .int .i64 c.ba], .slice A n cap, .slice B n' cap'] w fun e w' => e = .returned (.bool true) ∧ Below w.heap.size w w' := by
  have HL := Lib.hid hL
  by_cases hc : c.ok
  case neg =>
    clear h hL
    go_enter Tryd.func5, Tryd.ntmps5
    go_wp2_with fail
    refine (may01_no hc _).mono ?_
    rintro e w1 ⟨rfl, hb⟩
    have HB := Lib.hid (ext_trans (ext_alloc _ (ext_alloc _ (Below.refl _ _))) hb)
    have HY := Lib.hid ((hb.block (w.heap.size + 1) (by simp)).trans (alNew (by simp)))
    clear hb
    go_wp2_with fail
    refine (awake02 _ (HL.out.ext HB.out)).mono ?_
    rintro e w2 ⟨rfl, hb⟩
    have hy := (hb.block _ (lt_of HY.out)).trans HY.out
    have y0 := cell_of hy
    have yf := free_of hy
    have yl := lt_of hy
    have HY2 := Lib.hid (set_of (u := .bool true) hy)
    have HB2 := Lib.hid (ext_trans HB.out hb)
    clear hb hy
    go_wp2_with fail
    have y1 := cell_of HY2.out
    refine bodyPost_ret (v := .bool true) (by simp [results, Tryd.f5, go_sem, y1]) rfl ?_
    exact ⟨rfl, HB2.out.setCell (p := ⟨w.heap.size + 1, 0, none⟩) (by show w.heap.size ≤ w.heap.size + 1; omega) _⟩
  by_cases h60 : 60 < n
  · clear h hL
    go_enter Tryd.func5, Tryd.ntmps5
    go_wp2_with fail
    refine (may01_yes hc _).mono ?_
    rintro e w1 ⟨rfl, hb⟩
    have HB := Lib.hid (ext_trans (ext_alloc _ (ext_alloc _ (Below.refl _ _))) hb)
    have HY := Lib.hid ((hb.block (w.heap.size + 1) (by simp)).trans (alNew (by simp)))
    clear hb
    go_wp2_with fail
    refine (few02_no _ _ _ _ h60).mono ?_
    rintro e w1' ⟨rfl, hw⟩
    rw [hw]
    clear hw
    go_wp2_with fail
    refine (awake02 _ (HL.out.ext HB.out)).mono ?_
    rintro e w2 ⟨rfl, hb⟩
    have hy := (hb.block _ (lt_of HY.out)).trans HY.out
    have y0 := cell_of hy
    have yf := free_of hy
    have yl := lt_of hy
    have HY2 := Lib.hid (set_of (u := .bool true) hy)
    have HB2 := Lib.hid (ext_trans HB.out hb)
    clear hb hy
    go_wp2_with fail
    have y1 := cell_of HY2.out
    refine bodyPost_ret (v := .bool true) (by simp [results, Tryd.f5, go_sem, y1]) rfl ?_
    exact ⟨rfl, HB2.out.setCell (p := ⟨w.heap.size + 1, 0, none⟩) (by show w.heap.size ≤ w.heap.size + 1; omega) _⟩
  have h60' : 60 < n' := by rcases h with h | h | h <;> first | exact absurd hc h | exact absurd h h60 | exact h
  have hn : n ≤ 60 := by omega
  clear h hL h60
  go_enter Tryd.func5, Tryd.ntmps5
  go_wp2_with fail
  refine (may01_yes hc _).mono ?_
  rintro e w1 ⟨rfl, hb⟩
  have HB := Lib.hid (ext_trans (ext_alloc _ (ext_alloc _ (Below.refl _ _))) hb)
  have HY := Lib.hid ((hb.block (w.heap.size + 1) (by simp)).trans (alNew (by simp)))
  clear hb
  go_wp2_with fail
  refine (few02_yes _ _ _ _ hn).mono ?_
  rintro e w1' ⟨rfl, hw⟩
  rw [hw]
  clear hw
  go_wp2_with fail
  refine (few02_no _ _ _ _ h60').mono ?_
  rintro e w1' ⟨rfl, hw⟩
  rw [hw]
  clear hw
  go_wp2_with fail
  refine (awake02 _ (HL.out.ext HB.out)).mono ?_
  rintro e w2 ⟨rfl, hb⟩
  have hy := (hb.block _ (lt_of HY.out)).trans HY.out
  have y0 := cell_of hy
  have yf := free_of hy
  have yl := lt_of hy
  have HY2 := Lib.hid (set_of (u := .bool true) hy)
  have HB2 := Lib.hid (ext_trans HB.out hb)
  clear hb hy
  go_wp2_with fail
  have y1 := cell_of HY2.out
  refine bodyPost_ret (v := .bool true) (by simp [results, Tryd.f5, go_sem, y1]) rfl ?_
  exact ⟨rfl, HB2.out.setCell (p := ⟨w.heap.size + 1, 0, none⟩) (by show w.heap.size ≤ w.heap.size + 1; omega) _⟩

set_option maxRecDepth 100000 in
set_option maxHeartbeats 2000000 in
theorem all_stops_f (encs : Nat → Array Value) (k : Nat) (hk : 1 ≤ k) (b g n : Nat) (wd : Nat → Int) (w : World) (h : AL w b g n wd) (hn : n ≤ 1000) (he : ∀ i, i < n → encs i = #[.int .i64 i, .agg #[.int .i64 (wd (2 * i)), .int .i64 (wd (2 * i + 1))]]) :
    SeqStopsK Fence.wide k Tryd.prog 92 #[.pointer (some ⟨b, 0, none⟩)] encs (KeepL b g) (fun ys => ys = List.range n) (fun pre => pre <+: List.range n) n w := fun l J Jx W hW hJ _ hY h0 => by
  have HN := Lib.hid (h.ext hW)
  obtain ⟨hbW, hgW⟩ := HN.out.lt
  have hbc : W.cell? ⟨b, 0, none⟩ = some (.slice (some ⟨g, 0, none⟩) n n) := by simp [World.cell?, HN.out.box]
  have HE := Lib.hid he
  clear h hW he
  refine callsIn_of_wp Tryd.func92 rfl trivial ?_ rfl
  simp only [Tryd.ntmps92, List.size_toArray, List.length_cons, List.length_nil, Nat.reduceAdd, Nat.reduceSub, Array.replicate_succ, Array.replicate_zero, List.push_toArray, List.append_toArray, List.nil_append, List.cons_append]
  gi_wp2
  gi_loopw [7] (fun i wr => ∃ k : Nat, k ≤ n ∧ i = .int .i64 k ∧ J ((List.range n).take k) wr ∧ Hid (KeepL b g W wr) ) (fun i _ => n - (intOf i).toNat)
  case atStart => exact ⟨0, by omega, rfl, h0, Lib.hid (KeepL.refl _ _ _)⟩
  case round =>
    obtain ⟨k, hk, rfl, hJs, HK⟩ := hrel
    by_cases hlt : k < n
    · obtain ⟨x0, x1⟩ := (HN.out.keep HK.out).at k hlt
      have hgl := (HN.out.keep HK.out).lt.2
      have HT : Hid ((List.range n).take (k + 1) = (List.range n).take k ++ [k]) := Lib.hid (range_take hlt)
      have ek : decide ((k : Int) < (n : Int)) = true := by simp; omega
      have hJa : J ((List.range n).take k) (wr.alloc (.cells #[.int .i64 (wd (2 * k)), .int .i64 (wd (2 * k + 1))] 26)) :=
        hJ _ _ _ none hJs (World.grownBy_alloc _ _ none) (fun r e => by cases e)
      obtain ⟨fn, tmps, assign, body, hy, hR⟩ := hY _ k _ hJa (by simp; omega)
      rw [HE.out k hlt] at hy
      have hJx := hR
      clear hR
      gi_wp2
      refine hJx.mono ?_
      rintro e W3 (⟨rfl, hJ3, hk3⟩ | ⟨rfl, hJx3⟩)
      · gi_wp2
        have hka := (HN.out.keep HK.out).keepB ((Below.refl _ wr).alloc (Nat.le_refl _) (.cells #[.int .i64 (wd (2 * k)), .int .i64 (wd (2 * k + 1))] 26)) (Nat.le_refl _)
        go_roundw
        case rel => exact ⟨k + 1, by omega, by go_num, by rw [HT.out]; exact hJ3, Lib.hid ((HK.out.trans hka).trans hk3)⟩
        case measure => simp [intOf]; omega
      · gi_wp2
        refine bodyPost_ret (results_none rfl _ _ _) rfl ?_
        exact ⟨⟨_, rfl⟩, .inr ⟨_, by rw [← HT.out]; exact List.take_prefix _ _, hJx3⟩⟩
    · have ek : decide ((k : Int) < (n : Int)) = false := by simp; omega
      have hkx : k = n := by omega
      have HJs : Hid (J (List.range n) wr) := Lib.hid (by rw [hkx, List.take_of_length_le (by simp)] at hJs; exact hJs)
      clear hkx hJs
      gi_wp2
      go_end0
      exact ⟨⟨_, rfl⟩, .inl ⟨_, rfl, HJs.out⟩⟩
/-- A line's number, or 0. -/
def cl (n i : Nat) : Nat := if i < n then i else 0
theorem cl_lt {n i : Nat} (h : i < n) : cl n i = i := by unfold cl; rw [if_pos h]
theorem cl_lt' {n i : Nat} (h : 0 < n) : cl n i < n := by
  unfold cl
  split
  · assumption
  · exact h
/-- Are two rows of words alike, up to word k? -/
def allW (x y : Nat → Int) (k : Nat) : Bool := (List.range k).all fun i => x i == y i
theorem allW_succ (x y : Nat → Int) (k : Nat) : allW x y (k + 1) = (allW x y k && (x k == y k)) := by
  unfold allW
  rw [List.range_succ]
  simp
theorem alike_symm (x y : Nat → Int) (n : Nat) : alike x y n = alike y x n := by
  rw [Bool.eq_iff_iff, alike_iff, alike_iff]
  exact ⟨fun h k hk => (h k hk).symm, fun h k hk => (h k hk).symm⟩
set_option maxRecDepth 100000 in
set_option maxHeartbeats 16000000 in
theorem copies_yes (c : Cfg) (A B : Option Addr) (l l' : List Op2) (cap cap' : Nat) (w : World) (h : Sl5 w A l) (h' : Sl5 w B l') (hL : Lims w) (hc : c.ok) (hl : l.length ≤ 60) (hl' : l'.length ≤ 60) :
    Calls Tryd.prog 5 #[.agg #[.int .i64 c.co, .int .i64 c.gr, .int .i64 c.se, .int .i64 c.wa, .int .i64 c.de, .int .i64 c.en, .int .i64 c.ba], .slice A l.length cap, .slice B l'.length cap'] w fun e w' => e = .returned (.bool true) ∧ Below w.heap.size w w' := by
  have H := Lib.hid h
  have H' := Lib.hid h'
  have HL := Lib.hid hL
  have H60' := Lib.hid hl'
  clear h h' hL hl'
  have HC := Lib.hid hc
  have H60 := Lib.hid hl
  clear hc hl
  refine (callsIn_wide (n := 6)).1 ?_
  have hro : Fence.wide.round = none := rfl
  refine callsIn_of_wp_marks Tryd.func5 rfl trivial ?_ hro
  simp only [Tryd.ntmps5, List.size_toArray, List.length_cons, List.length_nil, Nat.reduceAdd, Nat.reduceSub, Array.replicate_succ, Array.replicate_zero, List.push_toArray, List.append_toArray, List.nil_append, List.cons_append]
  refine wpIn_wide.2 ?_
  go_wp2_with fail
  refine (may01_yes HC.out _).mono ?_
  rintro e w1 ⟨rfl, hb⟩
  have HB1 := Lib.hid (ext_trans (ext_alloc _ (ext_alloc _ (Below.refl _ _))) hb)
  have hx := (hb.block w.heap.size (by simp; omega)).trans (alOld (alNew rfl))
  have hy := (hb.block (w.heap.size + 1) (by simp)).trans (alNew (by simp))
  have HX1 := Lib.hid hx
  have HY1 := Lib.hid hy
  obtain ⟨k0, k1, k2, k3, k4, k5, k6⟩ := cfg_at hx
  have xl := lt_of hx
  clear hb hx hy
  go_wp2_with fail
  refine (few02_yes _ _ _ _ H60.out).mono ?_
  rintro e w1' ⟨rfl, hw⟩
  rw [hw]
  clear hw
  go_wp2_with fail
  refine (few02_yes _ _ _ _ H60'.out).mono ?_
  rintro e w1' ⟨rfl, hw⟩
  rw [hw]
  clear hw
  go_wp2_with fail
  refine (bnew_ok c _ (HL.out.ext HB1.out) HC.out).mono ?_
  rintro e w2 ⟨p, rfl, hm, hb⟩
  have HM2 := Lib.hid hm
  have HB2 := Lib.hid (ext_trans HB1.out hb)
  have HX2 := Lib.hid ((hb.block _ (lt_of HX1.out)).trans HX1.out)
  have HY2 := Lib.hid ((hb.block _ (lt_of HY1.out)).trans HY1.out)
  have HS2 := Lib.hid (show w1.heap.size < w2.heap.size by have := HM2.out.sz; omega)
  clear hm hb k0 k1 k2 k3 k4 k5 k6 xl
  obtain ⟨k0, k1, k2, k3, k4, k5, k6⟩ := cfg_at HX2.out
  have xl := lt_of HX2.out
  go_wp2_with fail
  refine (rnew02 c _ HC.out).mono ?_
  rintro e w3 ⟨p', rfl, hm, hb⟩
  have HO3 := Lib.hid (show Lp w3 w3 (w1.heap.size + 1) w2.heap.size p w2.heap.size w3.heap.size p' (Mm.zero c) c from ⟨⟨HM2.out.ext hb, hm, .inl (Nat.le_refl _), by have := HM2.out.gl; have := HM2.out.sz; show _ < w2.heap.size; omega⟩, rfl, Ou.refl _ _⟩)
  have HB3 := Lib.hid (ext_trans HB2.out hb)
  have HX3 := Lib.hid ((hb.block _ (lt_of HX2.out)).trans HX2.out)
  have HY3 := Lib.hid ((hb.block _ (lt_of HY2.out)).trans HY2.out)
  have HS3 := Lib.hid (And.intro HB1.out.size (And.intro (lt_of HY1.out) (And.intro HS2.out hb.size)))
  clear hm hb k0 k1 k2 k3 k4 k5 k6 xl
  have HIN : Hid (∀ k, In2 (w1.heap.size + 1) w2.heap.size w2.heap.size w3.heap.size k → w1.heap.size < k) := Lib.hid (by intro k hk; have := HS3.out; unfold In2 at hk; omega)
  generalize hlo : w1.heap.size + 1 = lo at HO3 HIN
  have HLO := Lib.hid hlo
  clear hlo
  generalize Mm.zero c = m0 at HO3
  clear HM2
  go_wp2_with fail
  obtain ⟨w30, hw30⟩ : ∃ W, W = w3.alloc (.cells #[.pointer (some ⟨p', 0, none⟩)] 36) := ⟨_, rfl⟩
  have hb30 : Below w3.heap.size w3 w30 := by rw [hw30]; exact ext_alloc _ (Below.refl _ _)
  have HZ3 : Hid (w30.heap[w3.heap.size]? = some (.cells #[.pointer (some ⟨p', 0, none⟩)] 36 (0, 0))) := Lib.hid (by rw [hw30]; exact alNew rfl)
  have HO30 := Lib.hid (show Lp w30 w30 lo w2.heap.size p w2.heap.size w3.heap.size p' m0 c from ⟨HO3.out.bo.ext hb30, HO3.out.cm, Ou.refl _ _⟩)
  have HB30 := Lib.hid (ext_trans HB3.out hb30)
  have HX30 := Lib.hid ((hb30.block _ (lt_of HX3.out)).trans HX3.out)
  have HY30 := Lib.hid ((hb30.block _ (lt_of HY3.out)).trans HY3.out)
  rw [← hw30]
  clear hw30 hb30 HO3 HB3 HX3 HY3
  go_loopg [10] l.length (fun gk s10 wr => ∃ (k : Nat) (m : Mm), k + gk = l.length ∧ s10 = .int .i64 k ∧ Hid (Lp w30 wr lo w2.heap.size p w2.heap.size w3.heap.size p' m c))
  case atStart => exact ⟨0, m0, by omega, rfl, HO30⟩
  case round =>
    obtain ⟨k, m, hk, rfl, HP⟩ := hrel
    have HBr := Lib.hid (HP.out.ou.below HB30.out (fun k hk => by have := HIN.out k hk; have := HS3.out; omega))
    by_cases hlt : k < l.length
    · have ek : decide (k < l.length) = true := by simpa using hlt
      obtain ⟨b, off, rfl, hbl, hcs⟩ := (H.out.ext HBr.out) (by omega)
      obtain ⟨ok, y0, y1, y2, y3, y4⟩ := hcs k hlt
      have hk60 : (k : Int) ≤ 60 := by have := H60.out; omega
      clear hcs
      have HD := Lib.hid (does02 (HP.out.bo.ext (ext_drew (Below.refl _ _))) (HL.out.ext (ext_drew HBr.out)) ok)
      have hz := ((HP.out.ou.block w3.heap.size (lt_of HZ3.out) (fun hi => by unfold In2 at hi; have := HS3.out; omega)).trans HZ3.out)
      have r0 := cell_of hz
      have rl := lt_of hz
      go_wp2_with fail
      go_still_tail 6, (by kernel_rfl)
      change wpList _ _ _ _ _ wr.drew
      go_wp2_with fail
      refine HD.out.mono ?_
      rintro e w4 ⟨m', rfl, hbo, hcm, hou⟩
      have HP4 := Lib.hid (show Lp w30 w4 lo w2.heap.size p w2.heap.size w3.heap.size p' m' c from ⟨hbo, hcm.trans HP.out.cm, HP.out.ou.trans ((Ou.of_below (ext_drew (Below.refl _ _))).trans hou)⟩)
      clear hbo hcm hou y0 y1 y2 y3 y4 hbl
      go_wp2_with fail
      go_roundg (l.length - (k + 1))
      case measure => omega
      case rel => exact ⟨k + 1, m', by omega, by go_num, HP4⟩
    · have ek : decide (k < l.length) = false := by simpa using hlt
      clear hlt hk
      go_wp2_with fail
      refine (bcopy_ok HP.out.bo.b).mono ?_
      rintro e w4 ⟨q, rfl, hq, hb⟩
      have HM4 := Lib.hid (HP.out.bo.b.ext hb)
      have HQ4 := Lib.hid hq
      have HB4 := Lib.hid (ext_trans HBr.out hb)
      have HX4 := Lib.hid ((hb.block _ (by have := HP.out.ou.size; have := lt_of HX30.out; omega)).trans ((HP.out.ou.block w.heap.size (lt_of HX30.out) (fun hi => by have := HIN.out _ hi; have := HS3.out; omega)).trans HX30.out))
      have HY4 := Lib.hid ((hb.block _ (by have := HP.out.ou.size; have := lt_of HY30.out; omega)).trans ((HP.out.ou.block (w.heap.size + 1) (lt_of HY30.out) (fun hi => by have := HIN.out _ hi; have := HS3.out; omega)).trans HY30.out))
      have HZ4 := Lib.hid ((hb.block _ (by have := HP.out.ou.size; have := lt_of HZ3.out; omega)).trans ((HP.out.ou.block w3.heap.size (lt_of HZ3.out) (fun hi => by unfold In2 at hi; have := HS3.out; omega)).trans HZ3.out))
      have HS4 := Lib.hid (show w.heap.size + 1 < lo ∧ lo ≤ w2.heap.size ∧ w2.heap.size ≤ w3.heap.size ∧ w3.heap.size < wr.heap.size ∧ wr.heap.size ≤ w4.heap.size from by
        have := HP.out.ou.size; have := lt_of HZ3.out; have := hb.size; have := HS3.out; have := HLO.out; omega)
      have HCM := Lib.hid HP.out.cm
      have HR4 := Lib.hid (HP.out.bo.r.ext hb)
      clear hq hb HP HBr HS3 HIN HS2 HLO HX30 HY30 HZ3 HB30 HO30 HX2 HY2 HB2 HX1 HY1 HB1
      generalize w2.heap.size = hi at *
      generalize w3.heap.size = hr at *
      generalize wr.heap.size = lx at *
      go_wp2_with fail
      refine (ball_ok HM4.out (HL.out.ext HB4.out)).mono ?_
      rintro e w5 ⟨b, g, rfl, hal, hbl, hgl, hb⟩
      have HAL5 := Lib.hid hal
      have HM5 := Lib.hid (HM4.out.ext hb)
      have HQ5 := Lib.hid (HQ4.out.ext hb)
      have HR5 := Lib.hid (HR4.out.ext hb)
      have HX5 := Lib.hid ((hb.block _ (lt_of HX4.out)).trans HX4.out)
      have HY5 := Lib.hid ((hb.block _ (lt_of HY4.out)).trans HY4.out)
      have HZ5 := Lib.hid ((hb.block _ (lt_of HZ4.out)).trans HZ4.out)
      have HB5 := Lib.hid (ext_trans HB4.out hb)
      have HS5 := Lib.hid (show w4.heap.size ≤ b ∧ w4.heap.size ≤ g ∧ b < w5.heap.size ∧ g < w5.heap.size from ⟨hbl, hgl, hal.lt.1, hal.lt.2⟩)
      clear hal hbl hgl hb HM4 HQ4 HR4 HX4 HY4 HZ4 HB4
      generalize w4.heap.size = hx at *
      have r0 := cell_of HZ5.out
      have rl := lt_of HZ5.out
      go_wp2_with fail
      refine (rcopy02_ok HR5.out).mono ?_
      rintro e w6 ⟨p3, rfl, hc3, hb⟩
      have HC6 := Lib.hid hc3
      have HAL6 := Lib.hid (HAL5.out.ext hb)
      have HM6 := Lib.hid (HM5.out.ext hb)
      have HQ6 := Lib.hid (HQ5.out.ext hb)
      have HR6 := Lib.hid (HR5.out.ext hb)
      have HX6 := Lib.hid ((hb.block _ (lt_of HX5.out)).trans HX5.out)
      have HY6 := Lib.hid ((hb.block _ (lt_of HY5.out)).trans HY5.out)
      have HZ6 := Lib.hid ((hb.block _ (lt_of HZ5.out)).trans HZ5.out)
      have HB6 := Lib.hid (ext_trans HB5.out hb)
      clear hc3 hb HM5 HQ5 HR5 HX5 HY5 HZ5 HB5 HAL5 r0 rl
      have r0 := cell_of HZ6.out
      have rl := lt_of HZ6.out
      generalize w5.heap.size = lc at *
      have hq := lseq_nil
      go_wp2_with fail
      refine (same02_yes HQ6.out HR6.out (HL.out.ext HB6.out)).mono ?_
      rintro e w7 ⟨rfl, hb⟩
      have HC7 := Lib.hid (HC6.out.ext hb)
      have HAL7 := Lib.hid (HAL6.out.ext hb)
      have HM7 := Lib.hid (HM6.out.ext hb)
      have HQ7 := Lib.hid (HQ6.out.ext hb)
      have HR7 := Lib.hid (HR6.out.ext hb)
      have HX7 := Lib.hid ((hb.block _ (lt_of HX6.out)).trans HX6.out)
      have HY7 := Lib.hid ((hb.block _ (lt_of HY6.out)).trans HY6.out)
      have HZ7 := Lib.hid ((hb.block _ (lt_of HZ6.out)).trans HZ6.out)
      have HB7 := Lib.hid (ext_trans HB6.out hb)
      have HS7 := Lib.hid HC6.out.sz
      clear hb HC6 HAL6 HM6 HQ6 HR6 HX6 HY6 HZ6 HB6 r0 rl
      generalize w6.heap.size = hc3 at *
      go_wp2_with fail
      have hsm := bsame_ok HQ7.out HM7.out rfl (HL.out.ext HB7.out)
      rw [alike_iff.2 fun _ _ => rfl] at hsm
      have hsm := Lib.hid hsm
      refine hsm.out.mono ?_
      clear hsm
      rintro e w8 ⟨rfl, hb⟩
      have HL8 : Hid (Lp w8 w8 lo hi p lc hc3 p3 m c) := Lib.hid ⟨⟨HM7.out.ext hb, HC7.out.ext hb, .inl (by have := HS4.out; have := HS5.out; omega), by have := HM7.out.gl; have := HS4.out; have := HS5.out; omega⟩, HCM.out, Ou.refl _ _⟩
      have HAL8 := Lib.hid (HAL7.out.ext hb)
      have HQ8 := Lib.hid (HQ7.out.ext hb)
      have HR8 := Lib.hid (HR7.out.ext hb)
      have HX8 := Lib.hid ((hb.block _ (lt_of HX7.out)).trans HX7.out)
      have HY8 := Lib.hid ((hb.block _ (lt_of HY7.out)).trans HY7.out)
      have HZ8 := Lib.hid ((hb.block _ (lt_of HZ7.out)).trans HZ7.out)
      have HB8 := Lib.hid (ext_trans HB7.out hb)
      have HIN8 : Hid (∀ k, In2 lo hi lc hc3 k → w.heap.size + 1 < k ∧ k ≠ hr ∧ k ≠ b ∧ k ≠ g ∧ (k < lx ∨ hx ≤ k) ∧ (k < hi ∨ hr ≤ k)) := Lib.hid (by intro k hk; have := HS4.out; have := HS5.out; unfold In2 at hk; omega)
      clear hb HC7 HAL7 HM7 HQ7 HR7 HX7 HY7 HZ7 HB7
      go_wp2_with fail
      go_loopg [14] l'.length (fun gk s14 wr => ∃ (k : Nat) (m' : Mm), k + gk = l'.length ∧ s14 = .int .i64 k ∧ Hid (Lp w8 wr lo hi p lc hc3 p3 m' c))
      case atStart => exact ⟨0, m, by omega, rfl, HL8⟩
      case round =>
        obtain ⟨k, m', hk, rfl, HP⟩ := hrel
        have HBr := Lib.hid (HP.out.ou.below HB8.out (fun k hk => by have := HIN8.out k hk; omega))
        by_cases hlt : k < l'.length
        · have ek : decide (k < l'.length) = true := by simpa using hlt
          obtain ⟨ba, off, rfl, hbl, hcs⟩ := (H'.out.ext HBr.out) (by omega)
          obtain ⟨ok, y0, y1, y2, y3, y4⟩ := hcs k hlt
          have hk60 : (k : Int) ≤ 60 := by have := H60'.out; omega
          clear hcs
          have HD := Lib.hid (does02 HP.out.bo (HL.out.ext HBr.out) ok)
          go_wp2_with fail
          refine HD.out.mono ?_
          rintro e w9 ⟨m9, rfl, hbo, hcm, hou⟩
          have HP4 := Lib.hid (show Lp w8 w9 lo hi p lc hc3 p3 m9 c from ⟨hbo, hcm.trans HP.out.cm, HP.out.ou.trans hou⟩)
          clear hbo hcm hou y0 y1 y2 y3 y4 hbl
          go_wp2_with fail
          go_roundg (l'.length - (k + 1))
          case measure => omega
          case rel => exact ⟨k + 1, m9, by omega, by go_num, HP4⟩
        · have ek : decide (k < l'.length) = false := by simpa using hlt
          clear hlt hk
          go_wp2_with fail
          have HPC := Lib.hid HP.out.cm
          have HBO := Lib.hid HP.out.bo
          have HALr := Lib.hid (HAL8.out.keep ⟨HP.out.ou.block b HAL8.out.lt.1 (fun hi => by have := HIN8.out _ hi; omega), HP.out.ou.block g HAL8.out.lt.2 (fun hi => by have := HIN8.out _ hi; omega)⟩)
          have HQr := Lib.hid (HQ8.out.ou HP.out.ou (fun k hk => by have := HIN8.out k hk; omega))
          have HRr := Lib.hid (HR8.out.ou HP.out.ou (fun k hk => by have := HIN8.out k hk; omega))
          have HYr := Lib.hid ((HP.out.ou.block _ (lt_of HY8.out) (fun hi => by have := HIN8.out _ hi; omega)).trans HY8.out)
          have HZr := Lib.hid ((HP.out.ou.block _ (lt_of HZ8.out) (fun hi => by have := HIN8.out _ hi; omega)).trans HZ8.out)
          have hbl := HALr.out.lt
          clear HP HAL8 HQ8 HR8 HX8 HY8 HZ8 HB8 HIN8 HL8
          refine (wpIn_wide (n := 6)).1 ?_
          refine wpIn_rangeFunc_mix wr.heap.size [(15, 0)] 16 (fun W bx x => W.heap[bx]? = some (.cells #[.int .i64 (m.wd (2 * cl m.n x)), .int .i64 (m.wd (2 * cl m.n x + 1))] 26 (0, 0)))
            (fun x bx W W' row hs hg hr => blk_held hs hg hr) hro (by omega) (gf := 92) (lb := #[.pointer (some ⟨b, 0, none⟩)]) rfl trivial (enters_of Tryd.func92 (by kernel_rfl) rfl)
            (all_stops_f (fun i : Nat => #[.int .i64 (cl m.n i), .agg #[.int .i64 (m.wd (2 * cl m.n i)), .int .i64 (m.wd (2 * cl m.n i + 1))]]) (6 - 1) (by omega) b g m.n m.wd wr HALr.out (by have := m.n_le; omega) (fun i hi => by rw [cl_lt hi])) (fun h k => h.trans k) (fun W l o o' hl ho hc hw => ?kp) (Below.refl _ _) (fun _ => rfl)
            (fun _ W => Below wr.heap.size wr W)
            (fun _ _ _ => False)
            (ownFrom_below (Nat.le_refl _) (Nat.le_refl _))
            (fun _ _ _ _ _ hs _ _ => hs)
            (Below.refl _ _) ?assign ?body ?done ?stop
          case kp => exact ⟨World.putObj_heap_other (by omega), World.putObj_heap_other (by omega)⟩
          case assign =>
            rintro l pre x W K hB hK
            have h9 : ∀ X, Below W.heap.size W (W.alloc X) := fun X => (Below.refl _ W).alloc (Nat.le_refl _) X
            have hs := hB.size
            have hk := hK W.heap.size (W.alloc (.cells #[.int .i64 (m.wd (2 * cl m.n x)), .int .i64 (m.wd (2 * cl m.n x + 1))] 26)) hs ((KeepsOthers.alloc _ _).from _) ⟨(h9 _).block _ (by omega), (h9 _).block _ (by omega)⟩ (hB.alloc hs _) (alNew rfl)
            gi_wp2
            unfold mixFrame at hk
            simpa using hk
          case body =>
            rintro l pre x0 bx W hl hr hB hbx bX hlen
            obtain ⟨x, hx⟩ : ∃ x, x = cl m.n x0 := ⟨_, rfl⟩
            have HX := Lib.hid hx
            have hxl : x < m.n := by rw [hx]; exact cl_lt' (by omega)
            rw [← hx] at bX
            clear hx
            obtain ⟨q9, cap9, hrk⟩ := HRr.out.ext hB
            obtain ⟨k0, _⟩ := hrk.sl
            have y0 := hrk.wd (2 * x) (by omega)
            have y1 := hrk.wd (2 * x + 1) (by omega)
            obtain ⟨hpl, hql⟩ := hrk.lt
            have b3 := (hB.block _ (lt_of HZr.out)).trans HZr.out
            have k3 := cell_of b3
            have s3 := lt_of b3
            obtain ⟨u0, u1, _, _, xl⟩ := pair_at bX
            have hn32 := m.n_le
            have HB := Lib.hid hB
            clear hrk b3 bX hB
            have e1 : decide (((2 * m.n : Nat) : Int) ≤ 2 * (x : Int) + 1) = false := by simp; omega
            have e9 : decide ((x : Int) < 0) = false := by simp
            have i0 : 2 * (x : Int) < ((2 * m.n : Nat) : Int) := by omega
            have i1 : 2 * (x : Int) + 1 < ((2 * m.n : Nat) : Int) := by omega
            have hp32 : (x : Int) ≤ 32 := by omega
            clear hn32 hlen hxl
            generalize 2 * m.n = N2 at k0 e1 i0 i1
            unfold mixFrame
            have hcl := HX.out.symm
            gi_wp2_with fail
            refine region_past_round (by kernel_rfl) (by kernel_rfl) (by kernel_rfl) ?_; (repeat (gi_big_quiet_step (fail))); refine wpQuietIn_nil ?_; rintro _ ⟨p, rfl⟩
            gi_wp2_with fail
            exact ⟨(KeepsOthers.of_grownBy (grown_of p.below) (fun j o e => by cases e)).from _, ⟨p.below.block _ (by have := HB.out.size; omega), p.below.block _ (by have := HB.out.size; omega)⟩, HB.out.trans (p.below.mono HB.out.size)⟩
          case done =>
            rintro D ys W hD rfl hB hK
            have HQW := Lib.hid (HQr.out.ext hB)
            have HRW := Lib.hid (HRr.out.ext hB)
            have HBW := Lib.hid (HBO.out.ext hB)
            have HYW := Lib.hid ((hB.block _ (lt_of HYr.out)).trans HYr.out)
            have HZW := Lib.hid ((hB.block _ (lt_of HZr.out)).trans HZr.out)
            have HW := Lib.hid (ext_trans HBr.out hB)
            have HK := Lib.hid hK
            have HSD : Hid (D ≠ w.heap.size + 1 ∧ w.heap.size ≤ D) := Lib.hid (by have := lt_of HYr.out; omega)
            clear HQr HRr HBO HYr HZr HBr hB hK hD hbl HALr
            have HNN : Hid (m'.n = m.n ∧ 2 * m.n ≤ 64) := Lib.hid ⟨by rw [n_of_c (HPC.out.trans HCM.out.symm)], by have := m.n_le; omega⟩
            obtain ⟨N2, hN2⟩ : ∃ N, N = 2 * m.n := ⟨_, rfl⟩
            have HN2 := Lib.hid hN2
            have hN64 : N2 ≤ 64 := by have := HNN.out.2; omega
            clear hN2
            go_wp2_with fail
            go_loopg [17, 18] N2 (fun gk s17 s18 wr => ∃ j : Nat, j + gk = N2 ∧ s18 = .int .i64 j ∧ s17 = .bool (allW m.wd m'.wd j) ∧ Hid (Below W.heap.size W wr))
            case atStart => exact ⟨0, by omega, rfl, rfl, Lib.hid (Below.refl _ _)⟩
            case round =>
              obtain ⟨j, hj, rfl, rfl, HX⟩ := hrel
              obtain ⟨q9, cap9, hrk⟩ := HRW.out.ext HX.out
              obtain ⟨k0, _⟩ := hrk.sl
              obtain ⟨hpl, hql⟩ := hrk.lt
              obtain ⟨q8, cap8, hrk2⟩ := HBW.out.r.ext HX.out
              obtain ⟨j0, _⟩ := hrk2.sl
              obtain ⟨hpl2, hql2⟩ := hrk2.lt
              have hz := (HX.out.block _ (lt_of HZW.out)).trans HZW.out
              have r0 := cell_of hz
              have rl := lt_of hz
              rw [← HN2.out] at k0
              rw [HNN.out.1, ← HN2.out] at j0
              clear hz
              by_cases hjn : j < N2
              · have ek : decide (j < N2) = true := by simpa using hjn
                have hj64 : (j : Int) ≤ 64 := by omega
                have y0 := hrk.wd j (by rw [← HN2.out]; exact hjn)
                have y1 := hrk2.wd j (by rw [HNN.out.1, ← HN2.out]; exact hjn)
                have i0 : (j : Int) < (N2 : Int) := by omega
                have HJ := Lib.hid hjn
                have HJG := Lib.hid hj
                have HS := Lib.hid (allW_succ m.wd m'.wd j)
                clear hjn hj hrk hrk2
                cases ha : allW m.wd m'.wd j with
                | false =>
                  have HAF : Hid (allW m.wd m'.wd (j + 1) = false) := Lib.hid (by rw [HS.out, ha]; rfl)
                  clear ha HS
                  go_wp2_with fail
                  refine region_past (by kernel_rfl) (by kernel_rfl) ?_; (repeat (go_big_quiet_step (fail))); refine wpQuiet_nil ?_; rintro _ ⟨pz, rfl⟩
                  go_wp2_with fail
                  go_roundg (N2 - (j + 1))
                  case measure => have := HJ.out; have := HJG.out; omega
                  case rel => exact ⟨j + 1, by have := HJ.out; omega, by go_num, by rw [HAF.out], Lib.hid (ext_past pz HX.out)⟩
                | true =>
                  have HAF : Hid (allW m.wd m'.wd (j + 1) = (m.wd j == m'.wd j)) := Lib.hid (by rw [HS.out, ha]; rfl)
                  clear ha HS
                  go_wp2_with fail
                  refine region_past (by kernel_rfl) (by kernel_rfl) ?_; (repeat (go_big_quiet_step (fail))); refine wpQuiet_nil ?_; rintro _ ⟨pz, rfl⟩
                  go_wp2_with fail
                  go_roundg (N2 - (j + 1))
                  case measure => have := HJ.out; have := HJG.out; omega
                  case rel => exact ⟨j + 1, by have := HJ.out; omega, by go_num, by rw [HAF.out], Lib.hid (ext_past pz HX.out)⟩
              · have ek : decide (j < N2) = false := by simpa using hjn
                obtain rfl : j = N2 := by omega
                have HAL : Hid (alike m.wd m'.wd m.n = allW m.wd m'.wd j) := Lib.hid (by rw [HN2.out]; rfl)
                clear hjn hj hrk hrk2
                generalize allW m.wd m'.wd j = al at HAL ⊢
                have HS1 := Lib.hid (fun (V : World) (hb : Below W.heap.size W V) => bsame_ok (HQW.out.ext hb) (HBW.out.b.ext hb) HNN.out.1 (HL.out.ext (ext_trans HW.out hb)))
                have HS2 := Lib.hid (fun (V : World) (hb : Below W.heap.size W V) => bsame_ok (HBW.out.b.ext hb) (HQW.out.ext hb) HNN.out.1.symm (HL.out.ext (ext_trans HW.out hb)))
                rw [HAL.out] at HS1
                rw [alike_symm, HNN.out.1, HAL.out] at HS2
                go_wp2_with fail
                refine (same02_yes (HQW.out.ext HX.out) (HRW.out.ext HX.out) (HL.out.ext (ext_trans HW.out HX.out))).mono ?_
                rintro e v1 ⟨rfl, hb⟩
                have HV1 := Lib.hid (ext_trans HX.out hb)
                clear hb
                go_wp2_with fail
                refine (same02_yes (HBW.out.b.ext HV1.out) (HBW.out.r.ext HV1.out) (HL.out.ext (ext_trans HW.out HV1.out))).mono ?_
                rintro e v2 ⟨rfl, hb⟩
                have HV2 := Lib.hid (ext_trans HV1.out hb)
                clear hb
                go_wp2_with fail
                refine (HS1.out _ HV2.out).mono ?_
                rintro e v3 ⟨rfl, hb⟩
                have HV3 := Lib.hid (ext_trans HV2.out hb)
                clear hb
                cases al
                all_goals
                  go_wp2_with fail
                  refine (HS2.out _ HV3.out).mono ?_
                  rintro e v4 ⟨rfl, hb⟩
                  have HV4 := Lib.hid (ext_trans HV3.out hb)
                  clear hb
                  go_wp2_with fail
                  refine (awake02 _ (HL.out.ext (ext_trans HW.out HV4.out))).mono ?_
                  rintro e v5 ⟨rfl, hb⟩
                  have HV5 := Lib.hid (ext_trans HV4.out hb)
                  clear hb
                  have hy5 := (HV5.out.block _ (lt_of HYW.out)).trans HYW.out
                  have HY5 := Lib.hid hy5
                  have y0 := cell_of hy5
                  have yf := free_of hy5
                  have yl := lt_of hy5
                  have HK5 := Lib.hid ((HV5.out.block _ (lt_of HK.out)).trans HK.out)
                  clear hy5
                  go_wp2_with fail
                  have h4' := set_of (u := .bool true) HY5.out
                  have hK' := (Below.heap_setCell v5 ⟨w.heap.size + 1, 0, none⟩ (.bool true) D HSD.out.1).trans HK5.out
                  have hB9 : Below w.heap.size w (v5.setCell ⟨w.heap.size + 1, 0, none⟩ (.bool true)) := (ext_trans HW.out HV5.out).setCell (p := ⟨w.heap.size + 1, 0, none⟩) (by show w.heap.size ≤ w.heap.size + 1; omega) _
                  refine ⟨by simp, .inl ⟨_, _, rfl, run_takeDeferred hK', ?_⟩⟩
                  have hc5 := cell_kept (cell_of h4') (grownBy_putObj' _ D (.deferred none)) (fun r e => by cases e; exact ⟨_, hK', rfl⟩)
                  refine ⟨.bool true, ?_, rfl, hB9.trans (belowK_b (w := w) (Nat.le_refl _) _ D _ _ HSD.out.2 hK' rfl rfl)⟩
                  simp [results, Tryd.f5, go_sem, hc5]
          case stop => exact fun _ _ _ _ _ _ h _ => h.elim

theorem bankcopies (c : Cfg) (A B : Option Addr) (l l' : List Op2) (cap cap' : Nat) (w : World) (h : Sl5 w A l) (h' : Sl5 w B l') (hL : Lims w) :
    Calls Tryd.prog 5 #[.agg #[.int .i64 c.co, .int .i64 c.gr, .int .i64 c.se, .int .i64 c.wa, .int .i64 c.de, .int .i64 c.en, .int .i64 c.ba], .slice A l.length cap, .slice B l'.length cap'] w fun e w' => e = .returned (.bool true) ∧ Below w.heap.size w w' := by
  by_cases hc : c.ok
  · by_cases h1 : 60 < l.length
    · exact copies_no hL (.inr (.inl h1))
    · by_cases h2 : 60 < l'.length
      · exact copies_no hL (.inr (.inr h2))
      · exact copies_yes c A B l l' cap cap' w h h' hL hc (by omega) (by omega)
  · exact copies_no hL (.inl hc)

end Go.Proofs.YtkfnjpmigifomaaDoor
