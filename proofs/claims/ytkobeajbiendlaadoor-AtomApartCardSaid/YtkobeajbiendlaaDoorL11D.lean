/- What this text holds: whether two machines agree, and what is seen, walked. Conditions: the tables of limits and of ops hold what their initialisers lay. -/
import Derived.Test.YtkobeajbiendlaaDoorPl11C
import Derived.Test.YtkobeajbiendlaaDoorL11B
import Derived.ChangeKeysEq
namespace Go.Proofs.YtkobeajbiendlaaDoor
open Go.RowKit

theorem eqRegs2 (w : World) (a b c d a' b' c' d' : Int) : (Op.equalIn 9999 30 (.agg #[.int .i64 a, .int .i64 b, .int .i64 c, .int .i64 d]) (.agg #[.int .i64 a', .int .i64 b', .int .i64 c', .int .i64 d'])).run Tryd.prog w = .ok (decide (a = a' ∧ b = b' ∧ c = c' ∧ d = d')) w := by
  obtain ⟨i0, hi, hz0, hz1, hz2⟩ := info_parts info_int11
  have hc : Tryd.prog.cellsOf 3 = 1 := by kernel_rfl
  have hr : List.range 4 = [0, 1, 2, 3] := rfl
  rw [run_equalIn_array (P := Tryd.prog) w 9998 _ _ Tryd.underlying30 hi, hc, hr]
  simp only [Op.eqItems]
  go_simp
  (repeat' split) <;> simp_all
theorem neqCore2 (w : World) (a b c d x y : Int) (z : Bool) (a' b' c' d' x' y' : Int) (z' : Bool) : (binOp .neq 32 (.agg #[.int .i64 a, .int .i64 b, .int .i64 c, .int .i64 d, .int .i64 x, .int .i64 y, .bool z]) (.agg #[.int .i64 a', .int .i64 b', .int .i64 c', .int .i64 d', .int .i64 x', .int .i64 y', .bool z'])).run Tryd.prog w =
    .ok (.bool (!(decide (((a = a' ∧ b = b' ∧ c = c' ∧ d = d') ∧ x = x') ∧ y = y' ∧ z = z')))) w := by
  have h := fun w => eqRegs2 w a b c d a' b' c' d'
  go_simp
  by_cases h0 : a = a' ∧ b = b' ∧ c = c' ∧ d = d'
  · obtain ⟨rfl, rfl, rfl, rfl⟩ := h0
    (repeat' split) <;> simp_all
  · rw [if_pos (fun h1 h2 h3 h4 => h0 ⟨h1, h2, h3, h4⟩)]
    have hx : ¬a = a' ∨ ¬b = b' ∨ ¬c = c' ∨ ¬d = d' := by omega
    simp
    exact .inl (.inl hx)

/-- Whether two machines agree. -/
def AgrPost (M N : Ma) (k : Int) (e : Ending) : Prop := ∃ rb : Bool, e = .returned (.bool rb) ∧ (rb = true ↔ Agr M N k)
/-- They agree on the first g granules. -/
def PreG (M N : Ma) (k : Int) (g : Nat) : Prop := ∀ y, y < g → M.ow y = N.ow y ∧ ∀ j, j < 4 → mayT k (M.ow y) = true → M.m.wd (4 * y + j) = N.m.wd (4 * y + j)
def PreC (M N : Ma) (k : Int) (i : Nat) : Prop := ∀ y, y < i → ((M.se y).wo = k ∨ (N.se y).wo = k) → SeEq (M.se y) (N.se y)
theorem Agr.pre {M N : Ma} {k : Int} (h : Agr M N k) (hn : M.m.n = 2 * M.ng) : PreG M N k M.ng ∧ PreC M N k M.nc :=
  ⟨fun y hy => ⟨h.ow y hy, fun j hj hm => h.wd _ (by omega) (by rw [show (4 * y + j) / 4 = y by omega]; exact hm)⟩, fun y hy => h.se y hy⟩
theorem Agr.mk' {M N : Ma} {k : Int} (hn : M.m.n = 2 * M.ng) (h1 : PreG M N k M.ng) (h2 : PreC M N k M.nc) : Agr M N k :=
  ⟨fun g hg => (h1 g hg).1, fun x hx hm => by
    have := (h1 (x / 4) (by omega)).2 (x % 4) (by omega) hm
    rwa [show 4 * (x / 4) + x % 4 = x by omega] at this, fun i hi => h2 i hi⟩
theorem getA_4 {M : Ma} {g j : Nat} (hg : g < M.ng) (hj : j < 4) (hn : M.m.n = 2 * M.ng) : M.getA (4 * (g : Int) + (j : Int)) = (M.m.wd (4 * g + j), 0) := by
  rw [show (4 * (g : Int) + (j : Int)) = ((4 * g + j : Nat) : Int) by omega]
  exact getA_in (by omega)
section
variable {w : World} {lo hi p lo2 hi2 p2 : Nat} {M N : Ma} (k : Int) (c : Cfg)
set_option maxRecDepth 100000 in
set_option maxHeartbeats 4000000 in
theorem agree_any (hM : Mc w lo hi p M) (hgM : M.Good) (hN : Mc w lo2 hi2 p2 N) (hT : Twn M N) (hL : Lims w) (hc : M.m.c = c) :
    Calls Tryd.prog 32 #[.pointer (some ⟨p, 0, none⟩), .pointer (some ⟨p2, 0, none⟩), .agg #[.int .i64 c.co, .int .i64 c.gr, .int .i64 c.se, .int .i64 c.wa, .int .i64 c.de, .int .i64 c.en, .int .i64 c.ba], .int .i64 k] w fun e w' => AgrPost M N k e ∧ Below w.heap.size w w' := by
  have HB0 := Lib.hid (show Below w.heap.size w (w.alloc (.cells #[.int .i64 c.co, .int .i64 c.gr, .int .i64 c.se, .int .i64 c.wa, .int .i64 c.de, .int .i64 c.en, .int .i64 c.ba] 65)) from ext_alloc _ (Below.refl _ _))
  have HX0 := Lib.hid (show (w.alloc (.cells #[.int .i64 c.co, .int .i64 c.gr, .int .i64 c.se, .int .i64 c.wa, .int .i64 c.de, .int .i64 c.en, .int .i64 c.ba] 65)).heap[w.heap.size]? = _ from alNew rfl)
  have HM := Lib.hid (fun (V : World) (hb : Below w.heap.size w V) => hM.ext hb)
  have HN := Lib.hid (fun (V : World) (hb : Below w.heap.size w V) => hN.ext hb)
  have HL := Lib.hid (fun (V : World) (hb : Below w.heap.size w V) => hL.ext hb)
  have HNN := Lib.hid (show M.m.n = 2 * M.ng ∧ (M.ng : Int) = c.gr ∧ M.ng ≤ 16 ∧ (M.nc : Int) = c.co ∧ M.nc ≤ 4 ∧ N.ng = M.ng ∧ N.nc = M.nc ∧ N.m.n = M.m.n from by
    have h := Ma.n_of hgM.1
    rw [hc] at h
    have := hT.ng
    have := hT.nc
    have := hT.n
    omega)
  clear hM hN hL hT hgM hc
  go_enter Tryd.func32, Tryd.ntmps32
  go_wp2_with fail
  go_loopg [9] M.ng (fun n s9 wr => ∃ g : Nat, s9 = .int .i64 g ∧ g + n = M.ng ∧ Hid (Below w.heap.size w wr ∧ wr.heap[w.heap.size]? = some (.cells #[.int .i64 c.co, .int .i64 c.gr, .int .i64 c.se, .int .i64 c.wa, .int .i64 c.de, .int .i64 c.en, .int .i64 c.ba] 65 (0, 0)) ∧ PreG M N k g))
  case atStart => exact ⟨0, rfl, by omega, Lib.hid ⟨HB0.out, HX0.out, fun y hy => by omega⟩⟩
  case round =>
    obtain ⟨g, rfl, hg, HR⟩ := hrel
    obtain ⟨t0, t1, t2, t3, t4, t5, t6⟩ := cfg_at HR.out.2.1
    have xl := lt_of HR.out.2.1
    have hg16 : (g : Int) ≤ 16 := by have := HNN.out; omega
    by_cases hlt : g < M.ng
    · have ek : decide ((g : Int) < c.gr) = true := by have := HNN.out; simp; omega
      have HG := Lib.hid (And.intro hg hlt)
      have ho1 := aown_all (HM.out _ HR.out.1) (g : Int)
      rw [ownA_in hlt] at ho1
      have ho2 := fun (V : World) (hb : Below w.heap.size w V) => aown_all (HN.out V hb) (g : Int)
      rw [ownA_in (by have := HNN.out; omega)] at ho2
      have HO1 := Lib.hid ho1
      have HO2 := Lib.hid ho2
      have HHO : Hid (∀ x y : Int, x = M.ow g → y = N.ow g → True) := Lib.hid (fun _ _ _ _ => trivial)
      obtain ⟨va, hva⟩ : ∃ v, v = M.ow g := ⟨_, rfl⟩
      obtain ⟨vb, hvb⟩ : ∃ v, v = N.ow g := ⟨_, rfl⟩
      rw [← hva] at HO1
      rw [← hvb] at HO2
      have HV := Lib.hid (And.intro hva hvb)
      clear hg hlt ho1 ho2 hva hvb HHO
      go_wp2_with fail
      refine HO1.out.mono ?_
      rintro e w1 ⟨rfl, hb⟩
      have HB1 := Lib.hid (ext_trans HR.out.1 hb)
      have HX1 := Lib.hid ((hb.block _ xl).trans HR.out.2.1)
      clear hb
      go_wp2_with fail
      refine (HO2.out _ HB1.out).mono ?_
      rintro e w2 ⟨rfl, hb⟩
      have HB2 := Lib.hid (ext_trans HB1.out hb)
      have HX2 := Lib.hid ((hb.block _ (lt_of HX1.out)).trans HX1.out)
      clear hb t0 t1 t2 t3 t4 t5 t6 xl
      by_cases hvv : va = vb
      · subst hvv
        go_wp2_with fail
        go_loopg [14] 4 (fun n s14 wr => ∃ j : Nat, s14 = .int .i64 j ∧ j + n = 4 ∧ Hid (Below w.heap.size w wr ∧ wr.heap[w.heap.size]? = some (.cells #[.int .i64 c.co, .int .i64 c.gr, .int .i64 c.se, .int .i64 c.wa, .int .i64 c.de, .int .i64 c.en, .int .i64 c.ba] 65 (0, 0)) ∧ ∀ y, y < j → mayT k (M.ow g) = true → M.m.wd (4 * g + y) = N.m.wd (4 * g + y)))
        case atStart => exact ⟨0, rfl, rfl, Lib.hid ⟨HB2.out, HX2.out, fun y hy => by omega⟩⟩
        case round =>
          obtain ⟨j, rfl, hj, HJ⟩ := hrel
          by_cases hj4 : j < 4
          · have e4 : decide ((j : Int) < 4) = true := by simp; omega
            have HJJ := Lib.hid (And.intro hj hj4)
            have hj4' : (j : Int) ≤ 4 := by omega
            have hg1 := aget_all (HM.out _ HJ.out.1) (HL.out _ HJ.out.1) (4 * (g : Int) + (j : Int))
            rw [getA_4 HG.out.2 hj4 HNN.out.1] at hg1
            have hg2 := fun (V : World) (hb : Below w.heap.size w V) => aget_all (HN.out V hb) (HL.out V hb) (4 * (g : Int) + (j : Int))
            rw [getA_4 (by have := HG.out.2; have := HNN.out; omega) hj4 (by have := HNN.out; omega)] at hg2
            obtain ⟨xa, hxa⟩ : ∃ v, v = M.m.wd (4 * g + j) := ⟨_, rfl⟩
            obtain ⟨xb, hxb⟩ : ∃ v, v = N.m.wd (4 * g + j) := ⟨_, rfl⟩
            rw [← hxa] at hg1
            rw [← hxb] at hg2
            have HG1 := Lib.hid hg1
            have HG2 := Lib.hid hg2
            have HXX := Lib.hid (And.intro hxa hxb)
            clear hj hj4 hg1 hg2 hxa hxb
            go_wp2_with fail
            refine HG1.out.mono ?_
            rintro e w3 ⟨rfl, hb⟩
            have HB3 := Lib.hid (ext_trans HJ.out.1 hb)
            have HX3 := Lib.hid ((hb.block _ (lt_of HJ.out.2.1)).trans HJ.out.2.1)
            clear hb
            go_wp2_with fail
            refine (HG2.out _ HB3.out).mono ?_
            rintro e w4 ⟨rfl, hb⟩
            have HB4 := Lib.hid (ext_trans HB3.out hb)
            have HX4 := Lib.hid ((hb.block _ (lt_of HX3.out)).trans HX3.out)
            clear hb
            go_wp2_with fail
            have HTM := Lib.hid (tmay_any k va w4)
            obtain ⟨mb, hmb⟩ : ∃ m, m = mayT k va := ⟨_, rfl⟩
            rw [← hmb] at HTM
            have HMB := Lib.hid hmb
            clear hmb
            refine HTM.out.mono ?_
            rintro e w5 ⟨rfl, hw⟩
            subst hw
            cases mb
            · go_wp2_with fail
              go_roundg (4 - (j + 1))
              case measure => have := HJJ.out; omega
              case rel => exact ⟨j + 1, by go_num, by have := HJJ.out; omega, Lib.hid ⟨HB4.out, HX4.out, fun y hy hm => by
                rw [← HV.out.1, ← HMB.out] at hm
                cases hm⟩⟩
            · by_cases hxx : xa = xb
              · have ex : (xa == xb) = true := by simpa using hxx
                have HE := Lib.hid hxx
                clear hxx
                go_wp2_with fail
                go_roundg (4 - (j + 1))
                case measure => have := HJJ.out; omega
                case rel => exact ⟨j + 1, by go_num, by have := HJJ.out; omega, Lib.hid ⟨HB4.out, HX4.out, fun y hy hm => by
                  by_cases hyj : y = j
                  · rw [hyj, ← HXX.out.1, ← HXX.out.2]; exact HE.out
                  · exact HJ.out.2.2 y (by omega) hm⟩⟩
              · have ex : (xa == xb) = false := by simpa using hxx
                have HE := Lib.hid hxx
                clear hxx
                go_wp2_with fail
                go_ret
                exact ⟨⟨false, rfl, by simp; intro hA; exact HE.out (by rw [HXX.out.1, HXX.out.2]; exact ((hA.pre HNN.out.1).1 g HG.out.2).2 j HJJ.out.2 (by rw [← HV.out.1, ← HMB.out]))⟩, HB4.out⟩
          · have e4 : decide ((j : Int) < 4) = false := by simp; omega
            obtain rfl : j = 4 := by omega
            clear hj hj4
            go_wp2_with fail
            go_roundg (M.ng - (g + 1))
            case measure => have := HG.out; omega
            case rel => exact ⟨g + 1, by go_num, by have := HG.out; omega, Lib.hid ⟨HJ.out.1, HJ.out.2.1, fun y hy => by
              by_cases hyg : y = g
              · subst hyg
                exact ⟨by rw [← HV.out.1, ← HV.out.2], fun j hj hm => HJ.out.2.2 j hj hm⟩
              · exact HR.out.2.2 y (by omega)⟩⟩
      · have ev : (va == vb) = false := by simpa using hvv
        have HVV := Lib.hid hvv
        clear hvv
        go_wp2_with fail
        go_ret
        exact ⟨⟨false, rfl, by simp; intro hA; exact HVV.out (by rw [HV.out.1, HV.out.2]; exact hA.ow g HG.out.2)⟩, HB2.out⟩
    · have ek : decide ((g : Int) < c.gr) = false := by have := HNN.out; simp; omega
      have hgg : g = M.ng := by omega
      have HPG := Lib.hid (show PreG M N k M.ng by rw [← hgg]; exact HR.out.2.2)
      clear hlt hg hgg
      go_wp2_with fail
      have HR9 := Lib.hid (And.intro HR.out.1 HR.out.2.1)
      clear HR t0 t1 t2 t3 t4 t5 t6 xl
      go_loopg [19] M.nc (fun n s19 wr => ∃ i : Nat, s19 = .int .i64 i ∧ i + n = M.nc ∧ Hid (Below w.heap.size w wr ∧ wr.heap[w.heap.size]? = some (.cells #[.int .i64 c.co, .int .i64 c.gr, .int .i64 c.se, .int .i64 c.wa, .int .i64 c.de, .int .i64 c.en, .int .i64 c.ba] 65 (0, 0)) ∧ PreC M N k i))
      case atStart => exact ⟨0, rfl, by omega, Lib.hid ⟨HR9.out.1, HR9.out.2, fun y hy => by omega⟩⟩
      case round =>
        obtain ⟨i, rfl, hi, HR⟩ := hrel
        obtain ⟨t0, t1, t2, t3, t4, t5, t6⟩ := cfg_at HR.out.2.1
        have xl := lt_of HR.out.2.1
        have hi4 : (i : Int) ≤ 4 := by have := HNN.out; omega
        by_cases hlt : i < M.nc
        · have ek : decide ((i : Int) < c.co) = true := by have := HNN.out; simp; omega
          have HI := Lib.hid (And.intro hi hlt)
          have hc1 := acore_all (HM.out _ HR.out.1) (i : Int)
          rw [coreA_in hlt] at hc1
          have hc2 := fun (V : World) (hb : Below w.heap.size w V) => acore_all (HN.out V hb) (i : Int)
          rw [coreA_in (by have := HNN.out; omega)] at hc2
          obtain ⟨ma, hma⟩ : ∃ m, m = M.se i := ⟨_, rfl⟩
          obtain ⟨nb, hnb⟩ : ∃ m, m = N.se i := ⟨_, rfl⟩
          rw [← hma] at hc1
          rw [← hnb] at hc2
          have HMN := Lib.hid (And.intro hma hnb)
          have HC1 := Lib.hid hc1
          have HC2 := Lib.hid hc2
          clear hi hlt hc1 hc2 hma hnb
          go_wp2_with fail
          refine HC1.out.mono ?_
          rintro e w1 ⟨rfl, hb⟩
          have HB1 := Lib.hid (ext_trans HR.out.1 hb)
          have HX1 := Lib.hid ((hb.block _ xl).trans HR.out.2.1)
          clear hb
          go_wp2_with fail
          have hB1 : Below w1.heap.size w1 (w1.alloc (.cells #[.int .i64 (ma.r 0), .int .i64 (ma.r 1), .int .i64 (ma.r 2), .int .i64 (ma.r 3), .int .i64 ma.a, .int .i64 ma.wo, .bool ma.ov] 32)) := ext_alloc _ (Below.refl _ _)
          refine (HC2.out _ (ext_trans HB1.out hB1)).mono ?_
          rintro e w2 ⟨rfl, hb⟩
          have HB2 := Lib.hid (ext_trans (ext_trans HB1.out hB1) hb)
          have HX2 := Lib.hid ((hb.block _ (lt_of (alOld HX1.out))).trans (alOld HX1.out))
          have ha2 := (hb.block w1.heap.size (by simp)).trans (alNew rfl)
          have HA2 := Lib.hid ha2
          clear hb hB1 t0 t1 t2 t3 t4 t5 t6 xl
          have hsq : SeEq ma nb ↔ (((ma.r 0 = nb.r 0 ∧ ma.r 1 = nb.r 1 ∧ ma.r 2 = nb.r 2 ∧ ma.r 3 = nb.r 3) ∧ ma.a = nb.a) ∧ ma.wo = nb.wo ∧ ma.ov = nb.ov) := by
            constructor
            · rintro ⟨h1, h2, h3, h4⟩
              exact ⟨⟨⟨h1 0 (by omega), h1 1 (by omega), h1 2 (by omega), h1 3 (by omega)⟩, h2⟩, h3, h4⟩
            · rintro ⟨⟨⟨h0, h1, h2, h3⟩, h4⟩, h5, h6⟩
              refine ⟨fun j hj => ?_, h4, h5, h6⟩
              have : j = 0 ∨ j = 1 ∨ j = 2 ∨ j = 3 := by omega
              rcases this with rfl | rfl | rfl | rfl
              · exact h0
              · exact h1
              · exact h2
              · exact h3
          have hn := fun w => neqCore2 w (ma.r 0) (ma.r 1) (ma.r 2) (ma.r 3) ma.a ma.wo ma.ov (nb.r 0) (nb.r 1) (nb.r 2) (nb.r 3) nb.a nb.wo nb.ov
          have hdec : decide ((((ma.r 0 = nb.r 0 ∧ ma.r 1 = nb.r 1 ∧ ma.r 2 = nb.r 2 ∧ ma.r 3 = nb.r 3) ∧ ma.a = nb.a) ∧ ma.wo = nb.wo ∧ ma.ov = nb.ov)) = true ↔ SeEq ma nb := by rw [hsq]; exact decide_eq_true_iff
          generalize decide ((((ma.r 0 = nb.r 0 ∧ ma.r 1 = nb.r 1 ∧ ma.r 2 = nb.r 2 ∧ ma.r 3 = nb.r 3) ∧ ma.a = nb.a) ∧ ma.wo = nb.wo ∧ ma.ov = nb.ov)) = dq at hn hdec
          have HDQ := Lib.hid hdec
          clear hsq hdec
          obtain ⟨a0, a1, a2, a3, a4, a5, a6, _, al⟩ := ev_cells HA2.out
          clear ha2
          have next : (ma.wo = k ∨ nb.wo = k → SeEq ma nb) → PreC M N k (i + 1) := fun h y hy hk => by
            by_cases hyi : y = i
            · subst hyi
              rw [← HMN.out.1, ← HMN.out.2] at hk ⊢
              exact h hk
            · exact HR.out.2.2 y (by omega) hk
          have HNX := Lib.hid next
          have bad : (ma.wo = k ∨ nb.wo = k) → ¬ SeEq ma nb → ¬ Agr M N k := fun h1 h2 hA => h2 (by
            rw [HMN.out.1, HMN.out.2] at h1 ⊢
            exact hA.se i HI.out.2 h1)
          have HBD := Lib.hid bad
          clear next bad
          by_cases hw1 : ma.wo = k
          · have e1 : (ma.wo == k) = true := by simpa using hw1
            have HW1 := Lib.hid hw1
            clear hw1
            cases dq
            · go_wp2_with fail
              go_ret
              exact ⟨⟨false, rfl, by simp; exact HBD.out (.inl HW1.out) (fun h => by have := HDQ.out.2 h; cases this)⟩, ext_alloc _ HB2.out⟩
            · go_wp2_with fail
              go_roundg (M.nc - (i + 1))
              case measure => have := HI.out; omega
              case rel => exact ⟨i + 1, by go_num, by have := HI.out; omega, Lib.hid ⟨ext_alloc _ HB2.out, alOld HX2.out, HNX.out (fun _ => HDQ.out.1 (by first | rfl | trivial))⟩⟩
          · have e1 : (ma.wo == k) = false := by simpa using hw1
            have HW1 := Lib.hid hw1
            clear hw1
            by_cases hw2 : nb.wo = k
            · have e2 : (nb.wo == k) = true := by simpa using hw2
              have HW2 := Lib.hid hw2
              clear hw2
              cases dq
              · go_wp2_with fail
                go_ret
                exact ⟨⟨false, rfl, by simp; exact HBD.out (.inr HW2.out) (fun h => by have := HDQ.out.2 h; cases this)⟩, ext_alloc _ HB2.out⟩
              · go_wp2_with fail
                go_roundg (M.nc - (i + 1))
                case measure => have := HI.out; omega
                case rel => exact ⟨i + 1, by go_num, by have := HI.out; omega, Lib.hid ⟨ext_alloc _ HB2.out, alOld HX2.out, HNX.out (fun _ => HDQ.out.1 (by first | rfl | trivial))⟩⟩
            · have e2 : (nb.wo == k) = false := by simpa using hw2
              have HW2 := Lib.hid hw2
              clear hw2
              go_wp2_with fail
              go_roundg (M.nc - (i + 1))
              case measure => have := HI.out; omega
              case rel => exact ⟨i + 1, by go_num, by have := HI.out; omega, Lib.hid ⟨ext_alloc _ HB2.out, alOld HX2.out, HNX.out (fun h => by rcases h with h | h; exact absurd h HW1.out; exact absurd h HW2.out)⟩⟩
        · have ek : decide ((i : Int) < c.co) = false := by have := HNN.out; simp; omega
          have hii : i = M.nc := by omega
          have HAA := Lib.hid (Agr.mk' HNN.out.1 HPG.out (by rw [← hii]; exact HR.out.2.2))
          clear hlt hi hii
          go_wp2_with fail
          go_ret
          exact ⟨⟨true, rfl, by simp; exact HAA.out⟩, HR.out.1⟩
end
end Go.Proofs.YtkobeajbiendlaaDoor
