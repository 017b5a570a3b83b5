/- What this text holds: the law BankLast, walked. Condition: the table of limits holds what its initialiser lays. -/
import Derived.Test.YtkfnjpmigifomaaDoorL02D
namespace Go.Proofs.YtkfnjpmigifomaaDoor
open Go.RowKit

theorem rd2_ga {w wr : World} {lo hi p lo2 hi2 q : Nat} {m0 m1 : Mm} (h : Rd2 w wr lo hi p lo2 hi2 q m0 m1) (hL : Lims wr) (j : Nat) (hj : j < 2 * m0.n) :
    Calls Tryd.prog 22 #[.pointer (some ⟨p, 0, none⟩), .int .i64 j] wr fun e w' => e = .returned (.tuple #[.int .i64 (m1.wd j), .int .i64 0]) ∧ Below wr.heap.size wr w' := by
  obtain ⟨⟨x, h1, h2, h3⟩, ⟨y, k1, k2, k3⟩, ho⟩ := h
  have := bget_ok h1 hL j (by rw [n_of_c h2]; exact hj)
  rw [h3] at this
  exact this
theorem rd2_gb {w wr : World} {lo hi p lo2 hi2 q : Nat} {m0 m1 : Mm} (h : Rd2 w wr lo hi p lo2 hi2 q m0 m1) (hL : Lims wr) (j : Nat) (hj : j < 2 * m0.n) :
    Calls Tryd.prog 22 #[.pointer (some ⟨q, 0, none⟩), .int .i64 j] wr fun e w' => e = .returned (.tuple #[.int .i64 (m0.wd j), .int .i64 0]) ∧ Below wr.heap.size wr w' := by
  obtain ⟨⟨x, h1, h2, h3⟩, ⟨y, k1, k2, k3⟩, ho⟩ := h
  have := bget_ok k1 hL j (by rw [n_of_c k2]; exact hj)
  rw [k3] at this
  exact this
theorem rd2_scrub {w wr : World} {lo hi p lo2 hi2 q : Nat} {m0 m1 : Mm} (h : Rd2 w wr lo hi p lo2 hi2 q m0 m1) (hd : hi ≤ lo2) (hL : Lims wr) (g : Nat) (hg : (g : Int) < m0.c.gr) :
    Calls Tryd.prog 25 #[.pointer (some ⟨p, 0, none⟩), .int .i64 g] wr fun e w' => e = .returned (.int .i64 0) ∧ Rd2 w w' lo hi p lo2 hi2 q m0 ((m1.put (2 * g) 0 0).put (2 * g + 1) 0 0) ∧ Ou (In2 lo hi lo2 hi2) wr w' := by
  obtain ⟨⟨x, h1, h2, h3⟩, ⟨y, k1, k2, k3⟩, ho⟩ := h
  have := bscrub_ok h1 hL g (by omega) (by rw [h2]; exact hg)
  rw [zeros_two h1.ok g (by rw [h2]; exact hg)] at this
  refine this.mono fun e w' ⟨he, hm, hr⟩ => ?_
  have hou := Ou.of_rg (X := In2 lo hi lo2 hi2) hr (fun k a b => .inl ⟨a, b⟩)
  refine ⟨he, ⟨⟨_, hm, h2, ?_⟩, ⟨y, k1.rg hr (.inr hd), k2, k3⟩, ho.trans hou⟩, hou⟩
  show updN (updN (updN (updN x.wd _ 0) _ 0) _ 0) _ 0 = updN (updN (updN (updN m1.wd _ 0) _ 0) _ 0) _ 0
  rw [h3]
theorem scrub_at (m : Mm) (g k : Nat) : ((m.put (2 * g) 0 0).put (2 * g + 1) 0 0).wd k = if k / 4 = g then 0 else m.wd k := by
  simp only [Mm.put, updN]
  by_cases h : k / 4 = g
  · rw [if_pos h]
    have : k = 4 * g ∨ k = 4 * g + 1 ∨ k = 4 * g + 2 ∨ k = 4 * g + 3 := by omega
    rcases this with rfl | rfl | rfl | rfl
    · rw [if_neg (by omega), if_neg (by omega), if_neg (by omega), if_pos (by omega)]
    · rw [if_neg (by omega), if_neg (by omega), if_pos (by omega)]
    · rw [if_neg (by omega), if_pos (by omega)]
    · rw [if_pos (by omega)]
  · rw [if_neg h, if_neg (by omega), if_neg (by omega), if_neg (by omega), if_neg (by omega)]
theorem pair_word (wd : Nat → Int) {W : World} {B k : Nat} (h0 : W.cell? ⟨B, 0, none⟩ = some (.int .i64 (wd (2 * (k / 2))))) (h1 : W.cell? ⟨B, 1, none⟩ = some (.int .i64 (wd (2 * (k / 2) + 1)))) : W.cell? ⟨B, k % 2, none⟩ = some (.int .i64 (wd k)) := by
  have : k % 2 = 0 ∨ k % 2 = 1 := by omega
  rcases this with e | e
  · rw [e, h0, show 2 * (k / 2) = k by omega]
  · rw [e, h1, show 2 * (k / 2) + 1 = k by omega]
theorem words_n {c : Cfg} {m : Mm} (e : lin c = (m.n : Int)) (W : World) (h : Lims W) : Calls Tryd.prog 21 #[.agg #[.int .i64 c.co, .int .i64 c.gr, .int .i64 c.se, .int .i64 c.wa, .int .i64 c.de, .int .i64 c.en, .int .i64 c.ba]] W (fun e w' => e = .returned (.int .i64 ((2 * m.n : Nat) : Int)) ∧ Below W.heap.size W w') := by
  have := words_any c W h
  rw [e, show (m.n : Int) * 2 = ((2 * m.n : Nat) : Int) by omega] at this
  exact this

set_option maxRecDepth 100000 in
set_option maxHeartbeats 8000000 in
theorem banklast (c : Cfg) (A : Option Addr) (l : List Op2) (cap : Nat) (x y : Int) (w : World) (h : Sl5 w A l) (hL : Lims w) :
    Calls Tryd.prog 4 #[.agg #[.int .i64 c.co, .int .i64 c.gr, .int .i64 c.se, .int .i64 c.wa, .int .i64 c.de, .int .i64 c.en, .int .i64 c.ba], .slice A l.length cap, .agg #[.int .i64 x, .int .i64 y]] w fun e w' => e = .returned (.bool true) ∧ Below w.heap.size w w' := by
  have H := Lib.hid h
  have HL := Lib.hid hL
  clear h hL
  by_cases hc : c.ok
  case neg =>
    go_enter Tryd.func4, Tryd.ntmps4
    go_wp2_with fail
    refine (may01_no hc _).mono ?_
    rintro e w1 ⟨rfl, hb⟩
    have HB := Lib.hid (ext_trans (ext_alloc _ (ext_alloc _ (Below.refl _ _))) hb)
    clear hb
    go_wp2_with fail
    refine (awake02 _ (HL.out.ext HB.out)).mono ?_
    rintro e w2 ⟨rfl, hb⟩
    go_wp2_with fail
    go_ret
    exact ⟨rfl, ext_trans HB.out hb⟩
  by_cases h60 : 60 < l.length
  · go_enter Tryd.func4, Tryd.ntmps4
    go_wp2_with fail
    refine (may01_yes hc _).mono ?_
    rintro e w1 ⟨rfl, hb⟩
    have HB := Lib.hid (ext_trans (ext_alloc _ (ext_alloc _ (Below.refl _ _))) hb)
    clear hb
    go_wp2_with fail
    refine (few02_no _ _ _ _ h60).mono ?_
    rintro e w1' ⟨rfl, hw⟩
    rw [hw]
    clear hw
    go_wp2_with fail
    refine (awake02 _ (HL.out.ext HB.out)).mono ?_
    rintro e w2 ⟨rfl, hb⟩
    go_wp2_with fail
    go_ret
    exact ⟨rfl, ext_trans HB.out hb⟩
  have HC := Lib.hid hc
  have H60 := Lib.hid (show l.length ≤ 60 by omega)
  clear hc h60
  go_enter Tryd.func4, Tryd.ntmps4
  go_wp2_with fail
  refine (may01_yes HC.out _).mono ?_
  rintro e w1 ⟨rfl, hb⟩
  have HB1 := Lib.hid (ext_trans (ext_alloc _ (ext_alloc _ (Below.refl _ _))) hb)
  have hx := (hb.block w.heap.size (by simp; omega)).trans (alOld (alNew rfl))
  have hy := (hb.block (w.heap.size + 1) (by simp)).trans (alNew (by simp))
  have HX1 := Lib.hid hx
  have HY1 := Lib.hid hy
  obtain ⟨k0, k1, k2, k3, k4, k5, k6⟩ := cfg_at hx
  have xl := lt_of hx
  clear hb hx hy
  go_wp2_with fail
  refine (few02_yes _ _ _ _ H60.out).mono ?_
  rintro e w1' ⟨rfl, hw⟩
  rw [hw]
  clear hw
  go_wp2_with fail
  refine (bnew_ok c _ (HL.out.ext HB1.out) HC.out).mono ?_
  rintro e w2 ⟨p, rfl, hm, hb⟩
  have HM2 := Lib.hid hm
  have HB2 := Lib.hid (ext_trans HB1.out hb)
  have HX2 := Lib.hid ((hb.block _ (lt_of HX1.out)).trans HX1.out)
  have HY2 := Lib.hid ((hb.block _ (lt_of HY1.out)).trans HY1.out)
  have HS2 := Lib.hid (show w1.heap.size < w2.heap.size by have := HM2.out.sz; omega)
  clear hm hb k0 k1 k2 k3 k4 k5 k6 xl
  obtain ⟨k0, k1, k2, k3, k4, k5, k6⟩ := cfg_at HX2.out
  have xl := lt_of HX2.out
  go_wp2_with fail
  refine (rnew02 c _ HC.out).mono ?_
  rintro e w3 ⟨p', rfl, hm, hb⟩
  have HO3 := Lib.hid (show Lp w3 w3 (w1.heap.size + 1) w2.heap.size p w2.heap.size w3.heap.size p' (Mm.zero c) c from ⟨⟨HM2.out.ext hb, hm, .inl (Nat.le_refl _), by have := HM2.out.gl; have := HM2.out.sz; show _ < w2.heap.size; omega⟩, rfl, Ou.refl _ _⟩)
  have HB3 := Lib.hid (ext_trans HB2.out hb)
  have HX3 := Lib.hid ((hb.block _ (lt_of HX2.out)).trans HX2.out)
  have HY3 := Lib.hid ((hb.block _ (lt_of HY2.out)).trans HY2.out)
  have HS3 := Lib.hid (And.intro HB1.out.size (And.intro (lt_of HY1.out) (And.intro HS2.out hb.size)))
  clear hm hb k0 k1 k2 k3 k4 k5 k6 xl
  have HIN : Hid (∀ k, In2 (w1.heap.size + 1) w2.heap.size w2.heap.size w3.heap.size k → w1.heap.size < k) := Lib.hid (by intro k hk; have := HS3.out; unfold In2 at hk; omega)
  generalize hlo : w1.heap.size + 1 = lo at HO3 HIN
  have HLO := Lib.hid hlo
  clear hlo
  generalize Mm.zero c = m0 at HO3
  clear HM2
  go_wp2_with fail
  go_loopg [10] l.length (fun gk s10 wr => ∃ (k : Nat) (m : Mm), k + gk = l.length ∧ s10 = .int .i64 k ∧ Hid (Lp w3 wr lo w2.heap.size p w2.heap.size w3.heap.size p' m c))
  case atStart => exact ⟨0, m0, by omega, rfl, HO3⟩
  case round =>
    obtain ⟨k, m, hk, rfl, HP⟩ := hrel
    have HBr := Lib.hid (HP.out.ou.below HB3.out (fun k hk => by have := HIN.out k hk; have := HS3.out; omega))
    by_cases hlt : k < l.length
    · have ek : decide (k < l.length) = true := by simpa using hlt
      obtain ⟨b, off, rfl, hbl, hcs⟩ := (H.out.ext HBr.out) (by omega)
      obtain ⟨ok, y0, y1, y2, y3, y4⟩ := hcs k hlt
      have hk60 : (k : Int) ≤ 60 := by have := H60.out; omega
      clear hcs
      have HD := Lib.hid (does02 HP.out.bo (HL.out.ext HBr.out) ok)
      go_wp2_with fail
      refine HD.out.mono ?_
      rintro e w4 ⟨m', rfl, hbo, hcm, hou⟩
      have HP4 := Lib.hid (show Lp w3 w4 lo w2.heap.size p w2.heap.size w3.heap.size p' m' c from ⟨hbo, hcm.trans HP.out.cm, HP.out.ou.trans hou⟩)
      clear hbo hcm hou y0 y1 y2 y3 y4 hbl
      go_wp2_with fail
      go_roundg (l.length - (k + 1))
      case measure => omega
      case rel => exact ⟨k + 1, m', by omega, by go_num, HP4⟩
    · have ek : decide (k < l.length) = false := by simpa using hlt
      clear hlt hk
      go_wp2_with fail
      refine (bcopy_ok HP.out.bo.b).mono ?_
      rintro e w4 ⟨q, rfl, hq, hb⟩
      have HM4 := Lib.hid (HP.out.bo.b.ext hb)
      have HQ4 := Lib.hid hq
      have HB4 := Lib.hid (ext_trans HBr.out hb)
      have HX4 := Lib.hid ((hb.block _ (by have := HP.out.ou.size; have := lt_of HX3.out; omega)).trans ((HP.out.ou.block w.heap.size (lt_of HX3.out) (fun hi => by have := HIN.out _ hi; have := HS3.out; omega)).trans HX3.out))
      have HY4 := Lib.hid ((hb.block _ (by have := HP.out.ou.size; have := lt_of HY3.out; omega)).trans ((HP.out.ou.block (w.heap.size + 1) (lt_of HY3.out) (fun hi => by have := HIN.out _ hi; have := HS3.out; omega)).trans HY3.out))
      have HS4 := Lib.hid (And.intro HP.out.ou.size (And.intro HS3.out (And.intro hb.size HP.out.bo.b.sz)))
      have HCM := Lib.hid HP.out.cm
      clear hq hb
      obtain ⟨z0, z1, _, _, zl⟩ := pair_at HY4.out
      have HLC : Hid (lin c = (m.n : Int)) := Lib.hid (by rw [← HCM.out]; exact (Mm.n_of m).symm)
      have hn32 := m.n_le
      have HD2 : Hid (w2.heap.size ≤ wr.heap.size) := Lib.hid (by have := HS4.out; omega)
      have HS5 := Lib.hid (show w.heap.size + 1 < w1.heap.size by have := HS4.out; omega)
      have HS6 := Lib.hid (show w2.heap.size ≤ w4.heap.size ∧ lo = w1.heap.size + 1 from ⟨by have := HS4.out; omega, HLO.out.symm⟩)
      by_cases hout : x < 0 ∨ 2 * (m.n : Int) ≤ x
      · have HOUT := Lib.hid hout
        clear hout
        go_wp2_with fail
        refine (bset_no HM4.out (HL.out.ext HB4.out) x y HOUT.out).mono ?_
        rintro e w5 ⟨rfl, hb⟩
        have HM5 := Lib.hid (HM4.out.ext hb)
        have HQ5 := Lib.hid (HQ4.out.ext hb)
        have HX5 := Lib.hid ((hb.block _ (lt_of HX4.out)).trans HX4.out)
        have HY5 := Lib.hid ((hb.block _ (lt_of HY4.out)).trans HY4.out)
        have HB5 := Lib.hid (ext_trans HB4.out hb)
        clear hb z0 z1 zl
        obtain ⟨z0, z1, _, _, zl⟩ := pair_at HY5.out
        obtain ⟨k0, k1, k2, k3, k4, k5, k6⟩ := cfg_at HX5.out
        have xl := lt_of HX5.out
        have HW := Lib.hid (fun (W : World) (hb : Below w5.heap.size w5 W) => words_n HLC.out W (HL.out.ext (ext_trans HB5.out hb)))
        have HSM := Lib.hid (fun (W : World) (hb : Below w5.heap.size w5 W) => show Calls Tryd.prog 19 #[.pointer (some ⟨p, 0, none⟩), .pointer (some ⟨q, 0, none⟩)] W (fun e w' => e = .returned (.bool true) ∧ Below W.heap.size W w') by have := bsame_ok (HM5.out.ext hb) (HQ5.out.ext hb) rfl (HL.out.ext (ext_trans HB5.out hb)); rw [alike_iff.2 fun _ _ => rfl] at this; exact this)
        by_cases hneg : x < 0
        · have e0 : decide (x < 0) = true := by simpa using hneg
          clear hneg
          go_wp2_with fail
          refine region_past (by kernel_rfl) (by kernel_rfl) ?_; (repeat (go_big_quiet_step (fail))); refine wpQuiet_nil ?_; rintro _ ⟨pw, rfl⟩
          have hb6 := pw.below
          generalize pw.val = w6 at hb6 ⊢
          have HB6 := Lib.hid hb6
          clear hb6
          go_wp2_with fail
          refine (HSM.out _ HB6.out).mono ?_
          rintro e w7 ⟨rfl, hb⟩
          have HB7 := Lib.hid (ext_trans (ext_trans HB5.out HB6.out) hb)
          clear hb
          go_wp2_with fail
          refine (awake02 _ (HL.out.ext HB7.out)).mono ?_
          rintro e w8 ⟨rfl, hb⟩
          go_wp2_with fail
          go_ret
          exact ⟨rfl, ext_trans HB7.out hb⟩
        · have e0 : decide (x < 0) = false := by simpa using hneg
          have e1 : decide (x ≥ ((2 * m.n : Nat) : Int)) = true := by have := HOUT.out; simp; omega
          clear hneg
          generalize 2 * m.n = N2 at *
          go_wp2_with fail
          refine region_past (by kernel_rfl) (by kernel_rfl) ?_; (repeat (go_big_quiet_step ((go_at_call 21; exact calls_past (HW.out _ (Past.below _)))))); refine wpQuiet_nil ?_; rintro _ ⟨pw, rfl⟩
          have hb6 := pw.below
          generalize pw.val = w6 at hb6 ⊢
          have HB6 := Lib.hid hb6
          clear hb6
          go_wp2_with fail
          refine (HSM.out _ HB6.out).mono ?_
          rintro e w7 ⟨rfl, hb⟩
          have HB7 := Lib.hid (ext_trans (ext_trans HB5.out HB6.out) hb)
          clear hb
          go_wp2_with fail
          refine (awake02 _ (HL.out.ext HB7.out)).mono ?_
          rintro e w8 ⟨rfl, hb⟩
          go_wp2_with fail
          go_ret
          exact ⟨rfl, ext_trans HB7.out hb⟩
      obtain ⟨i, rfl⟩ : ∃ i : Nat, x = i := ⟨x.toNat, by omega⟩
      have HI := Lib.hid (show i < 2 * m.n by omega)
      clear hout
      have e0 : decide ((i : Int) < 0) = false := by simp
      have hi64 : (i : Int) ≤ 64 := by have := HI.out; omega
      go_wp2_with fail
      refine (bset_ok HM4.out (HL.out.ext HB4.out) i HI.out y).mono ?_
      rintro e w5 ⟨rfl, hm, hrg⟩
      obtain ⟨m1, hm1⟩ : ∃ m1 : Mm, m1 = { m with wd := updN m.wd i y } := ⟨_, rfl⟩
      rw [← hm1] at hm
      have HW5 : Hid (m1.c = m.c ∧ ∀ k, m1.wd k = if k = i then y else m.wd k) := Lib.hid (by rw [hm1]; exact ⟨rfl, fun k => rfl⟩)
      have HR5 := Lib.hid (show Rd2 w5 w5 lo w2.heap.size p wr.heap.size w4.heap.size q m m1 from ⟨⟨m1, hm, HW5.out.1, rfl⟩, ⟨m, HQ4.out.rg hrg (.inr (by have := HS4.out; omega)), rfl, rfl⟩, Ou.refl _ _⟩)
      have HX5 := Lib.hid ((hrg.block _ (lt_of HX4.out) (.inl (by have := HLO.out; have := HS4.out; omega))).trans HX4.out)
      have HY5 := Lib.hid ((hrg.block _ (lt_of HY4.out) (.inl (by have := HLO.out; have := HS4.out; omega))).trans HY4.out)
      have HB5 := Lib.hid (hrg.below HB4.out (by have := HLO.out; have := HS4.out; omega))
      have HIN5 : Hid (∀ k, In2 lo w2.heap.size wr.heap.size w4.heap.size k → w1.heap.size < k) := Lib.hid (by intro k hk; have := HS4.out; have := HLO.out; unfold In2 at hk; omega)
      clear hm hrg z0 z1 zl HM4 HQ4 hm1
      generalize wr.heap.size = lo2 at *
      generalize w4.heap.size = hi2 at *
      generalize w2.heap.size = hi at *
      clear HX4 HY4 HB4 HS4 HP HBr HB3 HB2 HX3 HY3 HX2 HY2 HS3 HS2 HX1 HY1 HIN HO3 HS6
      obtain ⟨z0, z1, _, _, zl⟩ := pair_at HY5.out
      obtain ⟨k0, k1, k2, k3, k4, k5, k6⟩ := cfg_at HX5.out
      have xl := lt_of HX5.out
      have HW := Lib.hid (fun (W : World) (hb : Lims W) => words_n HLC.out W hb)
      have HN2 : Hid (∀ k, k < 2 * m.n → k / 2 < m.n) := Lib.hid (fun k hk => by omega)
      have HG : Hid (((i / 4 : Nat) : Int) < m.c.gr ∧ (i : Int) / 2 < lin c ∧ (2 * m.n : Nat) = 2 * m.n) := Lib.hid (by
        have h1 := n_gr (m := m) (by rw [HCM.out]; exact HC.out)
        have := HI.out
        have := HLC.out
        omega)
      have hN64 : 2 * m.n ≤ 64 := by omega
      generalize hNN : 2 * m.n = N2 at *
      have HNN := Lib.hid hNN
      clear hNN
      have e1 : decide (N2 ≤ i) = false := by have := HI.out; simp; omega
      go_wp2_with fail
      refine region_past (by kernel_rfl) (by kernel_rfl) ?_; (repeat (go_big_quiet_step ((go_at_call 21; exact calls_past (HW.out _ (HL.out.ext (ext_trans HB5.out (Past.below _)))))))); refine wpQuiet_nil ?_; rintro _ ⟨pw, rfl⟩
      have hb6 := pw.below
      generalize pw.val = w6 at hb6 ⊢
      have HB6 := Lib.hid (ext_trans HB5.out hb6)
      have HR6 := Lib.hid (HR5.out.ext hb6)
      have HX6 := Lib.hid ((hb6.block _ (lt_of HX5.out)).trans HX5.out)
      have HY6 := Lib.hid ((hb6.block _ (lt_of HY5.out)).trans HY5.out)
      have HKP : Hid (∀ W, Ou (In2 lo hi lo2 hi2) w5 W → Below w.heap.size w W ∧ W.heap[w.heap.size]? = w5.heap[w.heap.size]? ∧ W.heap[w.heap.size + 1]? = w5.heap[w.heap.size + 1]?) := Lib.hid (fun W hW => ⟨hW.below HB5.out (fun k hk => by have := HIN5.out k hk; have := HS5.out; omega), hW.block _ (lt_of HX5.out) (fun hi => by have := HIN5.out _ hi; have := HS5.out; omega), hW.block _ (lt_of HY5.out) (fun hi => by have := HIN5.out _ hi; have := HS5.out; omega)⟩)
      clear hb6 k0 k1 k2 k3 k4 k5 k6 xl z0 z1 zl
      go_wp2_with fail
      go_loopg [13] (N2) (fun gk s13 wx => ∃ j : Nat, j + gk = N2 ∧ s13 = .int .i64 j ∧ Hid (Rd2 w5 wx lo hi p lo2 hi2 q m m1))
      case atStart => exact ⟨0, by omega, rfl, HR6⟩
      case round =>
        obtain ⟨j, hj, rfl, HR⟩ := hrel
        obtain ⟨hb, hx, hy⟩ := HKP.out _ HR.out.ou
        have HBx := Lib.hid hb
        have HXx := Lib.hid (hx.trans HX5.out)
        have HYx := Lib.hid (hy.trans HY5.out)
        clear hb hx hy
        obtain ⟨k0, k1, k2, k3, k4, k5, k6⟩ := cfg_at HXx.out
        have xl := lt_of HXx.out
        have HLN := Lib.hid (HW.out _ (HL.out.ext HBx.out))
        by_cases hjn : j < N2
        · have ek : decide (j < N2) = true := by simpa using hjn
          have hj64 : (j : Int) ≤ 64 := by omega
          have HJ := Lib.hid hjn
          have HJG := Lib.hid hj
          clear hjn hj
          go_wp2_with fail
          refine HLN.out.mono ?_
          rintro e w7 ⟨rfl, hb⟩
          have HR7 := Lib.hid (HR.out.ext hb)
          have HB7 := Lib.hid (ext_trans HBx.out hb)
          clear hb k0 k1 k2 k3 k4 k5 k6 xl
          go_wp2_with fail
          refine (rd2_ga HR7.out (HL.out.ext HB7.out) j (by rw [HNN.out]; exact HJ.out)).mono ?_
          rintro e w8 ⟨rfl, hb⟩
          have HR8 := Lib.hid (HR7.out.ext hb)
          have HB8 := Lib.hid (ext_trans HB7.out hb)
          clear hb
          go_wp2_with fail
          refine (rd2_gb HR8.out (HL.out.ext HB8.out) j (by rw [HNN.out]; exact HJ.out)).mono ?_
          rintro e w9 ⟨rfl, hb⟩
          have HR9 := Lib.hid (HR8.out.ext hb)
          have HB9 := Lib.hid (ext_trans HB8.out hb)
          obtain ⟨hb, hx, hy⟩ := HKP.out _ HR9.out.ou
          have HX9 := Lib.hid (hx.trans HX5.out)
          clear hb hx hy
          obtain ⟨k0, k1, k2, k3, k4, k5, k6⟩ := cfg_at HX9.out
          have xl := lt_of HX9.out
          have HLI := line_ok c (j : Int) w9 (HL.out.ext HB9.out) (by omega) (by have := HJ.out; have := HLC.out; have := HNN.out; omega)
          obtain ⟨jd, hjd⟩ : ∃ d, d = j / 2 := ⟨_, rfl⟩
          obtain ⟨jr, hjr⟩ : ∃ d, d = j % 2 := ⟨_, rfl⟩
          rw [show (j : Int) / 2 = (jd : Int) by omega, show (j : Int) % 2 = (jr : Int) by omega] at HLI
          have HLI := Lib.hid HLI
          have HJ2 := Lib.hid (show jd < m.n by rw [hjd]; exact HN2.out j HJ.out)
          have HJD := Lib.hid (And.intro hjd hjr)
          have hm2 : (jr : Int) < 2 := by omega
          have hm3 : jr < 2 := by omega
          have hm2' : decide ((jr : Int) > 1) = false := by simp; omega
          clear hjd hjr
          go_wp2_with fail
          refine HLI.out.mono ?_
          rintro e w10 ⟨rfl, hb⟩
          have HR10 := Lib.hid (HR9.out.ext hb)
          have HB10 := Lib.hid (ext_trans HB9.out hb)
          clear hb k0 k1 k2 k3 k4 k5 k6 xl
          go_wp2_with fail
          refine (rd2_a HR10.out HD2.out (HL.out.ext HB10.out) jd HJ2.out).mono ?_
          rintro e w11 ⟨rfl, hrd, hou⟩
          have HR11 := Lib.hid hrd
          clear hrd hou
          obtain ⟨hb, hx, hy⟩ := HKP.out _ HR11.out.ou
          have HY11 := Lib.hid (hy.trans HY5.out)
          clear hb hx hy
          obtain ⟨z0, z1, _, _, zl⟩ := pair_at HY11.out
          have hpx : (w11.alloc (.cells #[.int .i64 (m1.wd (2 * jd)), .int .i64 (m1.wd (2 * jd + 1))] 26)).heap[w11.heap.size]? = _ := alNew rfl
          obtain ⟨x0, x1, _, _, _⟩ := pair_at hpx
          rw [HJD.out.1] at x0 x1
          have xw := pair_word m1.wd x0 x1
          rw [← HJD.out.1, ← HJD.out.2] at xw
          clear hpx x0 x1
          have hwd := HW5.out.2 j
          by_cases hji : j = i
          · rw [if_pos hji] at hwd
            have e2 : ((j : Int) == (i : Int)) = true := by simp [hji]
            have e3 : ((j : Int) != (i : Int)) = false := by simp [hji]
            have e4 : (m1.wd j != y) = false := by simp [hwd]
            clear hwd hji
            go_wp2_with fail
            go_roundg (N2 - (j + 1))
            case measure => have := HJ.out; have := HJG.out; omega
            case rel => exact ⟨j + 1, by have := HJ.out; omega, by go_num, Lib.hid (HR11.out.ext (ext_alloc _ (Below.refl _ _)))⟩
          · rw [if_neg hji] at hwd
            have e2 : ((j : Int) == (i : Int)) = false := by simp; omega
            have e3 : ((j : Int) != (i : Int)) = true := by simp; omega
            have e4 : (m1.wd j != m.wd j) = false := by simp [hwd]
            clear hwd hji
            go_wp2_with fail
            go_roundg (N2 - (j + 1))
            case measure => have := HJ.out; have := HJG.out; omega
            case rel => exact ⟨j + 1, by have := HJ.out; omega, by go_num, Lib.hid (HR11.out.ext (ext_alloc _ (Below.refl _ _)))⟩
        · have ek : decide (j < N2) = false := by simpa using hjn
          clear hjn hj
          go_wp2_with fail
          refine HLN.out.mono ?_
          rintro e w7 ⟨rfl, hb⟩
          have HR7 := Lib.hid (HR.out.ext hb)
          have HB7 := Lib.hid (ext_trans HBx.out hb)
          clear hb k0 k1 k2 k3 k4 k5 k6 xl
          obtain ⟨hb, hx, hy⟩ := HKP.out _ HR7.out.ou
          have HX7 := Lib.hid (hx.trans HX5.out)
          have HY7 := Lib.hid (hy.trans HY5.out)
          clear hb hx hy
          obtain ⟨z0, z1, _, _, zl⟩ := pair_at HY7.out
          obtain ⟨k0, k1, k2, k3, k4, k5, k6⟩ := cfg_at HX7.out
          have xl := lt_of HX7.out
          have HGR := gran_ok c ((i : Int) / 2) w7 (HL.out.ext HB7.out) (by omega) HG.out.2.1
          obtain ⟨ig, hig⟩ : ∃ d, d = i / 4 := ⟨_, rfl⟩
          rw [show (i : Int) / 2 / 2 = (ig : Int) by omega] at HGR
          have HGR := Lib.hid HGR
          have HIG := Lib.hid hig
          clear hig
          go_wp2_with fail
          refine HGR.out.mono ?_
          rintro e w8 ⟨rfl, hb⟩
          have HR8 := Lib.hid (HR7.out.ext hb)
          have HB8 := Lib.hid (ext_trans HB7.out hb)
          clear hb k0 k1 k2 k3 k4 k5 k6 xl z0 z1 zl
          go_wp2_with fail
          refine (rd2_scrub HR8.out HD2.out (HL.out.ext HB8.out) ig (by rw [HIG.out]; exact HG.out.1)).mono ?_
          rintro e w9 ⟨rfl, hrd, hou⟩
          obtain ⟨m2, hm2⟩ : ∃ m2 : Mm, m2 = (m1.put (2 * ig) 0 0).put (2 * ig + 1) 0 0 := ⟨_, rfl⟩
          rw [← hm2] at hrd
          have HW9 : Hid (∀ k, m2.wd k = if k / 4 = ig then 0 else m1.wd k) := Lib.hid (fun k => by rw [hm2]; exact scrub_at m1 ig k)
          have HR9 := Lib.hid hrd
          clear hrd hou hm2
          go_wp2_with fail
          go_loopg [25] N2 (fun gk s25 wx => ∃ j : Nat, j + gk = N2 ∧ s25 = .int .i64 j ∧ Hid (Rd2 w5 wx lo hi p lo2 hi2 q m m2))
          case atStart => exact ⟨0, by omega, rfl, HR9⟩
          case round =>
            obtain ⟨j, hj, rfl, HR⟩ := hrel
            obtain ⟨hb, hx, hy⟩ := HKP.out _ HR.out.ou
            have HBx := Lib.hid hb
            have HXx := Lib.hid (hx.trans HX5.out)
            clear hb hx hy
            obtain ⟨k0, k1, k2, k3, k4, k5, k6⟩ := cfg_at HXx.out
            have xl := lt_of HXx.out
            have HLN := Lib.hid (HW.out _ (HL.out.ext HBx.out))
            by_cases hjn : j < N2
            · have ek : decide (j < N2) = true := by simpa using hjn
              have hj64 : (j : Int) ≤ 64 := by omega
              have HJ := Lib.hid hjn
              have HJG := Lib.hid hj
              clear hjn hj
              go_wp2_with fail
              refine HLN.out.mono ?_
              rintro e w10 ⟨rfl, hb⟩
              have HR10 := Lib.hid (HR.out.ext hb)
              have HB10 := Lib.hid (ext_trans HBx.out hb)
              clear hb k0 k1 k2 k3 k4 k5 k6 xl
              go_wp2_with fail
              refine (rd2_ga HR10.out (HL.out.ext HB10.out) j (by rw [HNN.out]; exact HJ.out)).mono ?_
              rintro e w11 ⟨rfl, hb⟩
              have HR11 := Lib.hid (HR10.out.ext hb)
              have HB11 := Lib.hid (ext_trans HB10.out hb)
              clear hb
              go_wp2_with fail
              refine (rd2_gb HR11.out (HL.out.ext HB11.out) j (by rw [HNN.out]; exact HJ.out)).mono ?_
              rintro e w12 ⟨rfl, hb⟩
              have HR12 := Lib.hid (HR11.out.ext hb)
              clear hb
              have hwd := HW9.out j
              by_cases hjg : j / 4 = ig
              · rw [if_pos hjg] at hwd
                have e2 : ((j : Int) / 4 == (ig : Int)) = true := by simp; omega
                have e3 : ((j : Int) / 4 != (ig : Int)) = false := by simp; omega
                have e4 : (m2.wd j != 0) = false := by simp [hwd]
                clear hwd hjg
                go_wp2_with fail
                go_roundg (N2 - (j + 1))
                case measure => have := HJ.out; have := HJG.out; omega
                case rel => exact ⟨j + 1, by have := HJ.out; omega, by go_num, HR12⟩
              · rw [if_neg hjg] at hwd
                have h2 := HW5.out.2 j
                rw [if_neg (by have := HIG.out; intro e; apply hjg; rw [e]; exact this.symm)] at h2
                have e2 : ((j : Int) / 4 == (ig : Int)) = false := by simp; omega
                have e3 : ((j : Int) / 4 != (ig : Int)) = true := by simp; omega
                have e4 : (m2.wd j != m.wd j) = false := by simp [hwd, h2]
                clear hwd hjg h2
                go_wp2_with fail
                go_roundg (N2 - (j + 1))
                case measure => have := HJ.out; have := HJG.out; omega
                case rel => exact ⟨j + 1, by have := HJ.out; omega, by go_num, HR12⟩
            · have ek : decide (j < N2) = false := by simpa using hjn
              clear hjn hj
              go_wp2_with fail
              refine HLN.out.mono ?_
              rintro e w10 ⟨rfl, hb⟩
              have HB10 := Lib.hid (ext_trans HBx.out hb)
              clear hb k0 k1 k2 k3 k4 k5 k6 xl
              go_wp2_with fail
              refine (awake02 _ (HL.out.ext HB10.out)).mono ?_
              rintro e w11 ⟨rfl, hb⟩
              go_wp2_with fail
              go_ret
              exact ⟨rfl, ext_trans HB10.out hb⟩

end Go.Proofs.YtkfnjpmigifomaaDoor
