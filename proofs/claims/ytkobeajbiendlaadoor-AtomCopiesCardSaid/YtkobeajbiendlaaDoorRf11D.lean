/- What this text holds: the document's machine: a step. No condition. -/
import Derived.Test.YtkobeajbiendlaaDoorRf11C
namespace Go.Proofs.YtkobeajbiendlaaDoor
open Go.RowKit

/-- What lies behind the switch. -/
structure Sw (w W : World) (lo hi q bL bO bW cl co cw : Nat) (P : Nat → Value) (M : Ma) (S : Ev × Ma) (i b off c : Nat) : Prop where
  rs : W.heap[w.heap.size]? = some (.cells #[.int .i64 0, .int .i64 0, .int .i64 0, .int .i64 0, .int .i64 0, .int .i64 0, .int .i64 0] 132 (0, 0))
  cx : W.heap[w.heap.size + 1]? = some (.cells #[.slice (some ⟨b, off, none⟩) (M.se i).ps.length c, .int .i64 ((S.2.se i).r 0), .int .i64 ((S.2.se i).r 1), .int .i64 ((S.2.se i).r 2), .int .i64 ((S.2.se i).r 3), .int .i64 (S.2.se i).a, .int .i64 (S.2.se i).wo] 126 (0, 0))
  ev : W.heap[w.heap.size + 3]? = some (.cells #[.int .i64 S.1.co, .int .i64 S.1.a, .int .i64 S.1.op, .int .i64 S.1.wo, .int .i64 S.1.wd, .int .i64 S.1.va, .int .i64 S.1.cd] 132 (0, 0))
  dk : Dk W lo hi q bL bO bW cl co cw P { S.2 with se := M.se }
  rg : Rg lo hi w W
theorem Sw.mk2 {w W : World} {lo hi q bL bO bW cl co cw : Nat} {P : Nat → Value} {M N : Ma} {S : Ev × Ma} {i b off c : Nat} {e : Ev} {r : Nat → Int} {a wo : Int} {o : Bool} {ps : List Ins} (hS : S = (e, N)) (hN : N.se i = ⟨r, a, wo, o, ps⟩)
    (hrs : W.heap[w.heap.size]? = some (.cells #[.int .i64 0, .int .i64 0, .int .i64 0, .int .i64 0, .int .i64 0, .int .i64 0, .int .i64 0] 132 (0, 0)))
    (hcx : W.heap[w.heap.size + 1]? = some (.cells #[.slice (some ⟨b, off, none⟩) (M.se i).ps.length c, .int .i64 (r 0), .int .i64 (r 1), .int .i64 (r 2), .int .i64 (r 3), .int .i64 a, .int .i64 wo] 126 (0, 0)))
    (hev : W.heap[w.heap.size + 3]? = some (.cells #[.int .i64 e.co, .int .i64 e.a, .int .i64 e.op, .int .i64 e.wo, .int .i64 e.wd, .int .i64 e.va, .int .i64 e.cd] 132 (0, 0)))
    (hdk : Dk W lo hi q bL bO bW cl co cw P { N with se := M.se }) (hrg : Rg lo hi w W) : Sw w W lo hi q bL bO bW cl co cw P M S i b off c := by
  subst hS
  refine ⟨hrs, ?_, hev, hdk, hrg⟩
  dsimp only
  rw [hN]
  exact hcx
/-- The three boxes of a step under way. -/
structure B3 (w W : World) (lo hi q bL bO bW cl co cw : Nat) (P : Nat → Value) (M : Ma) (cs es : Array Value) : Prop where
  rs : W.heap[w.heap.size]? = some (.cells #[.int .i64 0, .int .i64 0, .int .i64 0, .int .i64 0, .int .i64 0, .int .i64 0, .int .i64 0] 132 (0, 0))
  cx : W.heap[w.heap.size + 1]? = some (.cells cs 126 (0, 0))
  ev : W.heap[w.heap.size + 3]? = some (.cells es 132 (0, 0))
  dk : Dk W lo hi q bL bO bW cl co cw P M
  rg : Rg lo hi w W
  hi : hi ≤ w.heap.size
theorem B3.c {w W : World} {lo hi q bL bO bW cl co cw : Nat} {P : Nat → Value} {M : Ma} {cs es : Array Value} (h : B3 w W lo hi q bL bO bW cl co cw P M cs es) (j : Nat) (v : Value) : B3 w (W.setCell ⟨w.heap.size + 1, j, none⟩ v) lo hi q bL bO bW cl co cw P M (cs.setIfInBounds j v) es :=
  ⟨(Below.heap_setCell W _ _ _ (by simp)).trans h.rs, Joins.block_setCell h.cx v, (Below.heap_setCell W _ _ _ (by simp)).trans h.ev, h.dk.keep (fun k h1 h2 => Below.heap_setCell _ _ _ _ (by have := h.hi; simp; omega)) (by simp), h.rg.box2 (sc_grown _ _ _ _) (by omega), h.hi⟩
theorem B3.e {w W : World} {lo hi q bL bO bW cl co cw : Nat} {P : Nat → Value} {M : Ma} {cs es : Array Value} (h : B3 w W lo hi q bL bO bW cl co cw P M cs es) (j : Nat) (v : Value) : B3 w (W.setCell ⟨w.heap.size + 3, j, none⟩ v) lo hi q bL bO bW cl co cw P M cs (es.setIfInBounds j v) :=
  ⟨(Below.heap_setCell W _ _ _ (by simp)).trans h.rs, (Below.heap_setCell W _ _ _ (by simp)).trans h.cx, Joins.block_setCell h.ev v, h.dk.keep (fun k h1 h2 => Below.heap_setCell _ _ _ _ (by have := h.hi; simp; omega)) (by simp), h.rg.box2 (sc_grown _ _ _ _) (by omega), h.hi⟩
theorem B3.sw {w W : World} {lo hi q bL bO bW cl co cw : Nat} {P : Nat → Value} {M N : Ma} {cs es : Array Value} {S : Ev × Ma} {i b off c : Nat} {e : Ev} {r : Nat → Int} {a wo : Int} {o : Bool} {ps : List Ins} (hS : S = (e, N)) (hN : N.se i = ⟨r, a, wo, o, ps⟩) (h : B3 w W lo hi q bL bO bW cl co cw P { N with se := M.se } cs es)
    (hc : cs = #[.slice (some ⟨b, off, none⟩) (M.se i).ps.length c, .int .i64 (r 0), .int .i64 (r 1), .int .i64 (r 2), .int .i64 (r 3), .int .i64 a, .int .i64 wo]) (he : es = #[.int .i64 e.co, .int .i64 e.a, .int .i64 e.op, .int .i64 e.wo, .int .i64 e.wd, .int .i64 e.va, .int .i64 e.cd]) : Sw w W lo hi q bL bO bW cl co cw P M S i b off c :=
  Sw.mk2 hS hN h.rs (by rw [← hc]; exact h.cx) (by rw [← he]; exact h.ev) h.dk h.rg
theorem B3.drew {w W : World} {lo hi q bL bO bW cl co cw : Nat} {P : Nat → Value} {M : Ma} {cs es : Array Value} (h : B3 w W lo hi q bL bO bW cl co cw P M cs es) : B3 w W.drew lo hi q bL bO bW cl co cw P M cs es :=
  ⟨h.rs, h.cx, h.ev, h.dk.ext (ext_drew (Below.refl _ _)), h.rg.extr2 (ext_drew (Below.refl _ _)), h.hi⟩
/-- The machine was turned, the boxes were not. -/
theorem B3.go {w W V : World} {lo hi q bL bO bW cl co cw : Nat} {P : Nat → Value} {M N : Ma} {cs es : Array Value} (h : B3 w W lo hi q bL bO bW cl co cw P M cs es) (hd : Dk V lo hi q bL bO bW cl co cw P N) (hr : Rg lo hi W V) : B3 w V lo hi q bL bO bW cl co cw P N cs es := by
  have h1 := lt_of h.rs
  have h2 := lt_of h.cx
  have h3 := lt_of h.ev
  have h4 := h.hi
  exact ⟨(hr.block _ h1 (by omega)).trans h.rs, (hr.block _ h2 (by omega)).trans h.cx, (hr.block _ h3 (by omega)).trans h.ev, hd, h.rg.trans hr, h.hi⟩
theorem B3.as {w W : World} {lo hi q bL bO bW cl co cw : Nat} {P : Nat → Value} {M N : Ma} {cs es : Array Value} (h : B3 w W lo hi q bL bO bW cl co cw P M cs es) (hc : N.m.c = M.m.c) (hs : N.se = M.se) (ho : N.ow = M.ow) (hw : ∀ k, k < 2 * M.m.n → N.m.wd k = M.m.wd k) : B3 w W lo hi q bL bO bW cl co cw P N cs es :=
  ⟨h.rs, h.cx, h.ev, h.dk.as hc hs ho hw, h.rg, h.hi⟩
/-- A register of the box of a core. -/
theorem reg_set4 {v0 a5 a6 : Value} {r : Nat → Int} {j : Nat} (hj : j < 4) (x : Int) : (#[v0, .int .i64 (r 0), .int .i64 (r 1), .int .i64 (r 2), .int .i64 (r 3), a5, a6] : Array Value).setIfInBounds (1 + j) (.int .i64 x) = #[v0, .int .i64 (updN r j x 0), .int .i64 (updN r j x 1), .int .i64 (updN r j x 2), .int .i64 (updN r j x 3), a5, a6] := by
  have : j = 0 ∨ j = 1 ∨ j = 2 ∨ j = 3 := by omega
  rcases this with rfl | rfl | rfl | rfl <;> simp [updN]
section
variable {w : World} {lo hi q bL bO bW cl co cw : Nat} {P : Nat → Value} {M : Ma}
set_option maxRecDepth 100000 in
set_option maxHeartbeats 4000000 in
theorem dstep_any (h : Dk w lo hi q bL bO bW cl co cw P M) (hg : M.Good) (hr : M.Rng) (i : Nat) (hi' : i < M.nc) (hov : (M.se i).ov = false) (busy : Bool) :
    Calls Tryd.prog 63 #[.pointer (some ⟨q, 0, none⟩), .int .i64 i, .bool busy] w fun e w' => e = .returned (.agg (M.step i busy).1.cells.toArray) ∧ Dk w' lo hi q bL bO bW cl co cw P (M.step i busy).2 ∧ Rg lo hi w w' := by
  obtain ⟨t0, t1, t2⟩ := h.tops
  obtain ⟨k0, k1, k2, k3, k4, k5, k6, kf⟩ := h.core i hi'
  obtain ⟨l1, l2, l3, l4⟩ := h.lt
  obtain ⟨A, c, hP, hS, hn⟩ := (h.pg i hi').1
  have hn4 := Ma.n_of hg.1
  have hic : (i : Int) < (M.nc : Int) := by omega
  have hi4 : (i : Int) ≤ 4 := by omega
  have he : endB (M.se i).ps (M.se i).a = false := by rw [← (hg.2 i hi').2]; exact hov
  obtain ⟨ka, hka, hkl, h11⟩ := endB_no he
  obtain ⟨x, hxx, x1, x12, g1, g2, g3, g8, g9, g10, g7⟩ := good_at (hg.2 i hi').1 hkl
  have hxM : M.ins i = x := by unfold Ma.ins; rw [hka, Int.toNat_natCast]; exact hxx
  obtain ⟨b, off, hA, hb, hc⟩ := hS (by omega)
  obtain ⟨c0, c1, c2, c3⟩ := hc ka hkl
  rw [hxx] at c0 c1 c2 c3
  have hl32 := (hg.2 i hi').1.1
  have hk32 : (ka : Int) ≤ 32 := by omega
  have hkl' : (ka : Int) < ((M.se i).ps.length : Int) := by omega
  obtain ⟨S, hSe⟩ : ∃ S, S = M.step i busy := ⟨_, rfl⟩
  rw [← hSe]
  have HSE := Lib.hid hSe
  have H := Lib.hid h
  have HX := Lib.hid (And.intro hxM (And.intro hka hP))
  have HGX := Lib.hid (And.intro g1 (And.intro g2 (And.intro g3 (And.intro g8 (And.intro x1 x12)))))
  rw [hP] at k0
  rw [hka] at k5
  subst hA
  obtain ⟨xo, xa, xb, xc⟩ := x
  dsimp only at c0 c1 c2 c3
  clear h hn4 he hov hSe hxM hka hP g1 g2 g3 g8 g9 g10 g7 x1 x12 hc hS hn h11 hxx
  go_enter Tryd.func63, Tryd.ntmps63
  go_upto_region 8 with (fail)
  iterate 10 go_step
  obtain ⟨W0, hW0⟩ : ∃ W, W = (((w.alloc (.cells #[.int .i64 0, .int .i64 0, .int .i64 0, .int .i64 0, .int .i64 0, .int .i64 0, .int .i64 0] 132)).alloc (.cells #[.slice (some ⟨b, off, none⟩) (M.se i).ps.length c, .int .i64 ((M.se i).r 0), .int .i64 ((M.se i).r 1), .int .i64 ((M.se i).r 2), .int .i64 ((M.se i).r 3), .int .i64 ((ka : Int) + 1), .int .i64 (M.se i).wo] 126)).alloc (.cells #[.int .i64 xo, .int .i64 xa, .int .i64 xb, .int .i64 xc] 130)).alloc (.cells #[.int .i64 i, .int .i64 ka, .int .i64 xo, .int .i64 (M.se i).wo, .int .i64 0, .int .i64 0, .int .i64 0] 132) := ⟨_, rfl⟩
  rw [← hW0]
  have hB0 : Below w.heap.size w W0 := by rw [hW0]; exact (by repeat (with_reducible first | exact Below.refl _ _ | assumption | (refine ext_next (by assumption) ?_) | apply ext_alloc | apply ext_past | apply ext_drew | apply ext_drewN))
  have hr0 : W0.heap[w.heap.size]? = some (.cells #[.int .i64 0, .int .i64 0, .int .i64 0, .int .i64 0, .int .i64 0, .int .i64 0, .int .i64 0] 132 (0, 0)) := by rw [hW0]; exact alOld (alOld (alOld (alNew rfl)))
  have hc0 : W0.heap[w.heap.size + 1]? = some (.cells #[.slice (some ⟨b, off, none⟩) (M.se i).ps.length c, .int .i64 ((M.se i).r 0), .int .i64 ((M.se i).r 1), .int .i64 ((M.se i).r 2), .int .i64 ((M.se i).r 3), .int .i64 ((ka : Int) + 1), .int .i64 (M.se i).wo] 126 (0, 0)) := by rw [hW0]; exact alOld (alOld (alNew (by simp)))
  have hx0 : W0.heap[w.heap.size + 2]? = some (.cells #[.int .i64 xo, .int .i64 xa, .int .i64 xb, .int .i64 xc] 130 (0, 0)) := by rw [hW0]; exact alOld (alNew (by simp))
  have he0 : W0.heap[w.heap.size + 3]? = some (.cells #[.int .i64 i, .int .i64 ka, .int .i64 xo, .int .i64 (M.se i).wo, .int .i64 0, .int .i64 0, .int .i64 0] 132 (0, 0)) := by rw [hW0]; exact alNew (by simp)
  have HB0 := Lib.hid hB0
  have HBX := Lib.hid (And.intro hr0 (And.intro hc0 (And.intro hx0 he0)))
  clear hW0 hB0 hr0 hc0 hx0 he0 t0 t1 t2 k0 k1 k2 k3 k4 k5 k6 kf c0 c1 c2 c3
  go_cut [13] from 50 to 185 (fun _ wc => Hid (Sw w wc lo hi q bL bO bW cl co cw P M S i b off c))
  case first =>
    obtain ⟨r0, c0, x0, e0⟩ := HBX.out
    obtain ⟨k0, k1, k2, k3, k4, k5, k6, kf, kl⟩ := ev_cells c0
    obtain ⟨y0, y1, y2, y3, yf, yl⟩ := four_cells x0
    obtain ⟨v0, v1, v2, v3, v4, v5, v6, vf, vl⟩ := ev_cells e0
    obtain ⟨g1, g2, g3, g8, x1, x12⟩ := HGX.out
    have HD0 := Lib.hid (H.out.ext HB0.out)
    have HRG0 := Lib.hid (Rg.of_below (lo := lo) (hi := hi) HB0.out)
    have h15 : xo = 1 ∨ xo = 2 ∨ (xo = 3 ∨ xo = 4 ∨ xo = 5) ∨ (xo = 6 ∨ xo = 11) ∨ xo = 7 ∨ xo = 8 ∨ xo = 9 ∨ xo = 10 := by
      have := x1
      have := x12
      dsimp only at *
      omega
    clear r0 c0 x0 e0
    have HB3 := Lib.hid (show B3 w W0 lo hi q bL bO bW cl co cw P M _ _ from ⟨HBX.out.1, HBX.out.2.1, HBX.out.2.2.2, HD0.out, HRG0.out, H.out.sz⟩)
    rcases h15 with h1 | h1 | h1 | h1 | h1 | h1 | h1 | h1
    · have hS : S = (⟨i, (M.se i).a, (M.ins i).op, (M.se i).wo, 0, (M.ins i).b, 0⟩, (M.setReg i (M.ins i).a.toNat (M.ins i).b).turn i ((M.se i).a + 1)) := by rw [HSE.out]; exact st1 M i busy (by rw [HX.out.1]; exact h1)
      rw [HX.out.1, HX.out.2.1] at hS
      have HSS := Lib.hid hS
      obtain ⟨ja, hja, hj4⟩ := g1 (.inl h1)
      have hja : xa = (ja : Int) := hja
      have hj4' : (ja : Int) < 4 := by omega
      subst h1 hja
      clear hS g1 g2 g3 g8 x1 x12
      have : ja = 0 ∨ ja = 1 ∨ ja = 2 ∨ ja = 3 := by omega
      rcases this with rfl | rfl | rfl | rfl
      all_goals
        go_wp2_with fail
        go_meet
        exact Lib.hid (B3.sw HSS.out ((se_turn _ _ _).trans (by rw [se_reg])) ((HB3.out.c _ _).e _ _) (by simp [updN]) (by simp))
    · obtain ⟨ja, jb, jd, hja, hjb, hjd, hj4, hb4, hd4⟩ := g2 h1
      have hja : xa = (ja : Int) := hja
      have hjb : xb = (jb : Int) := hjb
      have hjd : xc = (jd : Int) := hjd
      have hS : S = (⟨i, (M.se i).a, (M.ins i).op, (M.se i).wo, 0, wrap64 ((M.se i).r (M.ins i).b.toNat + (M.se i).r (M.ins i).c.toNat), 0⟩, (M.setReg i (M.ins i).a.toNat (wrap64 ((M.se i).r (M.ins i).b.toNat + (M.se i).r (M.ins i).c.toNat))).turn i ((M.se i).a + 1)) := by rw [HSE.out]; exact st2 M i busy (by rw [HX.out.1]; exact h1)
      rw [HX.out.1, HX.out.2.1] at hS
      have cell : ∀ j, j < 4 → W0.cell? ⟨w.heap.size + 1, 1 + j, none⟩ = some (.int .i64 ((M.se i).r j)) := fun j hj => by
        have : j = 0 ∨ j = 1 ∨ j = 2 ∨ j = 3 := by omega
        rcases this with rfl | rfl | rfl | rfl
        · exact k1
        · exact k2
        · exact k3
        · exact k4
      have ca := cell ja hj4
      have cb := cell jb hb4
      have cd := cell jd hd4
      have ha4 : (ja : Int) < 4 := by omega
      have hb4' : (jb : Int) < 4 := by omega
      have hd4' : (jd : Int) < 4 := by omega
      subst h1 hja hjb hjd
      dsimp only [Int.toNat_natCast] at hS
      have HSS := Lib.hid hS
      have HJ := Lib.hid hj4
      clear hS g1 g2 g3 g8 x1 x12 cell hj4 hb4 hd4
      go_wp2_with fail
      go_region
      go_wp2_with fail
      go_meet
      refine Lib.hid (B3.sw HSS.out ((se_turn _ _ _).trans (by rw [se_reg])) ((HB3.out.drew.c (1 + ja) _).e 5 _) ?_ (by simp))
      rw [reg_set4 HJ.out]
    · obtain ⟨ja, jb, hja, hjb, hj4, hb4⟩ := g3 h1
      have hja : xa = (ja : Int) := hja
      have hjb : xb = (jb : Int) := hjb
      have hS : S = (⟨i, (M.se i).a, (M.ins i).op, (M.se i).wo, (M.se i).r (M.ins i).b.toNat, (M.acc i (M.ins i)).1, (M.acc i (M.ins i)).2.1⟩, (M.acc i (M.ins i)).2.2.turn i ((M.se i).a + 1)) := by rw [HSE.out]; exact st3 M i busy (by rw [HX.out.1]; exact h1)
      rw [HX.out.1, HX.out.2.1] at hS
      have cell : ∀ j, j < 4 → W0.cell? ⟨w.heap.size + 1, 1 + j, none⟩ = some (.int .i64 ((M.se i).r j)) := fun j hj => by
        have : j = 0 ∨ j = 1 ∨ j = 2 ∨ j = 3 := by omega
        rcases this with rfl | rfl | rfl | rfl
        · exact k1
        · exact k2
        · exact k3
        · exact k4
      have ca := cell ja hj4
      have cb := cell jb hb4
      have ha4 : (ja : Int) < 4 := by omega
      have hb4' : (jb : Int) < 4 := by omega
      subst hja hjb
      dsimp only [Int.toNat_natCast] at hS
      unfold Ma.acc at hS
      dsimp only [Int.toNat_natCast] at hS
      obtain ⟨wd, hwd⟩ : ∃ v, v = (M.se i).r jb := ⟨_, rfl⟩
      obtain ⟨av, hav⟩ : ∃ v, v = (M.se i).r ja := ⟨_, rfl⟩
      rw [← hwd] at hS cb
      rw [← hav] at hS ca
      have HJ := Lib.hid (And.intro hj4 hav)
      have hwo := hr.wo i hi'
      have HWO := Lib.hid hwo
      have hkk := HD0.out.tops.2.2
      obtain ⟨N2, hN2⟩ : ∃ N, N = 2 * M.m.n := ⟨_, rfl⟩
      rw [← hN2] at hkk
      have hn64 : (N2 : Int) ≤ 64 := by have := Ma.n_of hg.1; omega
      have lW := HD0.out.lt
      obtain ⟨lW1, lW2, lW3, lW4⟩ := lW
      clear g1 g2 g3 g8 x1 x12 cell hj4 hb4 hwd hav hwo
      cases hmy : M.may (M.se i).wo wd
      · rw [hmy] at hS
        simp only [Bool.false_eq_true, if_false] at hS
        have HSS := Lib.hid hS
        have HMY := Lib.hid hmy
        clear hS hmy hkk
        rcases h1 with rfl | rfl | rfl
        all_goals
          go_wp2_with fail
          refine (dmay_any (HB3.out.e 4 (.int .i64 wd)).dk hg hr (M.se i).wo HWO.out wd).mono ?_
          rintro e w1 ⟨rfl, hw⟩
          subst hw
          rw [HMY.out]
          go_wp2_with fail
          go_meet
          exact Lib.hid (B3.sw HSS.out (se_turn M i _) ((HB3.out.e 4 _).e 6 _) (by simp) (by simp))
      · rw [hmy] at hS
        simp only [if_true] at hS
        have hb2 : 0 ≤ wd ∧ wd < 2 * M.m.n := by
          unfold Ma.may at hmy
          simp only [Bool.and_eq_true, decide_eq_true_eq] at hmy
          omega
        obtain ⟨kw, rfl⟩ : ∃ k : Nat, wd = k := ⟨wd.toNat, by omega⟩
        have hkw : kw < 2 * M.m.n := by omega
        have hkN : (kw : Int) < (N2 : Int) := by omega
        obtain ⟨y1, y2⟩ := HD0.out.word kw hkw
        rw [Int.toNat_natCast] at hS
        obtain ⟨old, hold⟩ : ∃ v, v = M.m.wd kw := ⟨_, rfl⟩
        rw [← hold] at hS y1
        have HMY := Lib.hid hmy
        have HS0 := Lib.hid hS
        have HB4 := Lib.hid (HB3.out.e 4 (.int .i64 kw))
        have HBW := Lib.hid (show ∀ (V : World) (cs es : Array Value), B3 w V lo hi q bL bO bW cl co cw P M cs es → B3 w (V.setCell ⟨bW, kw, none⟩ (.int .i64 av)) lo hi q bL bO bW cl co cw P { M with m := M.m.setWd kw av } cs es from fun V cs es h => h.go (h.dk.wd_set kw av) ((Rg.refl lo hi V).cell ⟨h.dk.bd.2.2.2.2.2.2.1, h.dk.bd.2.2.2.2.2.2.2⟩ kw (.int .i64 av)))
        clear hS hmy hb2 hkw hold hN2
        rcases h1 with rfl | rfl | rfl
        · have HSS := HS0.out
          try dsimp only at HSS
          rw [if_pos rfl] at HSS
          have HSS := Lib.hid HSS
          go_wp2_with fail
          refine (dmay_any HB4.out.dk hg hr (M.se i).wo HWO.out kw).mono ?_
          rintro e w1 ⟨rfl, hw⟩
          subst hw
          rw [HMY.out]
          go_wp2_with fail
          go_region
          go_wp2_with fail
          go_meet
          refine Lib.hid (B3.sw HSS.out ((se_turn _ _ _).trans (by rw [se_reg])) ((HB4.out.drew.e 5 _).c (1 + ja) _) ?_ (by simp))
          rw [reg_set4 HJ.out.1]
        · have HSS := HS0.out
          try dsimp only at HSS
          rw [if_neg (by decide), if_pos rfl] at HSS
          have HSS := Lib.hid HSS
          go_wp2_with fail
          refine (dmay_any HB4.out.dk hg hr (M.se i).wo HWO.out kw).mono ?_
          rintro e w1 ⟨rfl, hw⟩
          subst hw
          rw [HMY.out]
          go_wp2_with fail
          go_region
          go_wp2_with fail
          go_region
          go_wp2_with fail
          go_meet
          first
            | exact Lib.hid (B3.sw HSS.out (se_turn _ _ _) (((HBW.out _ _ _ HB4.out.drew.drew).e 5 _).e 5 _) (by simp) (by simp))
            | exact Lib.hid (B3.sw HSS.out (se_turn _ _ _) (((HBW.out _ _ _ HB4.out.drew).drew.e 5 _).e 5 _) (by simp) (by simp))
        · have HSS := HS0.out
          try dsimp only at HSS
          rw [if_neg (by decide), if_neg (by decide)] at HSS
          have HSS := Lib.hid HSS
          go_wp2_with fail
          refine (dmay_any HB4.out.dk hg hr (M.se i).wo HWO.out kw).mono ?_
          rintro e w1 ⟨rfl, hw⟩
          subst hw
          rw [HMY.out]
          go_wp2_with fail
          go_region
          go_wp2_with fail
          go_region
          go_wp2_with fail
          go_meet
          first
            | refine Lib.hid (B3.sw HSS.out ((se_turn _ _ _).trans (by rw [se_reg])) (((HBW.out _ _ _ HB4.out.drew.drew).e 5 _).c (1 + ja) _) ?_ (by simp))
            | refine Lib.hid (B3.sw HSS.out ((se_turn _ _ _).trans (by rw [se_reg])) (((HBW.out _ _ _ HB4.out.drew).drew.e 5 _).c (1 + ja) _) ?_ (by simp))
          rw [reg_set4 HJ.out.1]
    · have hS : S = (⟨i, (M.se i).a, (M.ins i).op, (M.se i).wo, 0, 0, 0⟩, M.turn i ((M.se i).a + 1)) := by rw [HSE.out]; exact st6 M i busy (by rw [HX.out.1]; exact h1)
      rw [HX.out.1, HX.out.2.1] at hS
      have HSS := Lib.hid hS
      clear hS g1 g2 g3 g8 x1 x12
      rcases h1 with rfl | rfl
      · go_wp2_with fail
        go_meet
        exact Lib.hid (Sw.mk2 HSS.out (se_turn M i _) HBX.out.1 HBX.out.2.1 HBX.out.2.2.2 HD0.out HRG0.out)
      · go_wp2_with fail
        go_meet
        exact Lib.hid (Sw.mk2 HSS.out (se_turn M i _) HBX.out.1 HBX.out.2.1 HBX.out.2.2.2 HD0.out HRG0.out)
    · by_cases hw : (M.se i).wo = 0
      · have hS : S = (⟨i, (M.se i).a, (M.ins i).op, (M.se i).wo, 0, (M.ins i).a, 0⟩, (M.setWo i (M.ins i).a).turn i ((M.se i).a + 1)) := by
          rw [HSE.out]
          have h7 : (M.ins i).op = 7 := by rw [HX.out.1]; exact h1
          unfold Ma.ins at h7 ⊢
          unfold Ma.step
          dsimp only
          rw [if_neg (by omega), if_neg (by omega), if_neg (by omega), if_pos h7, if_pos hw]
        rw [HX.out.1, HX.out.2.1] at hS
        have HSS := Lib.hid hS
        have ew : ((M.se i).wo == 0) = true := by simpa using hw
        clear hS g1 g2 g3 g8 x1 x12 hw
        subst h1
        go_wp2_with fail
        go_meet
        exact Lib.hid (B3.sw HSS.out ((se_turn _ _ _).trans (by rw [se_wo])) ((HB3.out.e _ _).c _ _) (by simp) (by simp))
      · have hS : S = (⟨i, (M.se i).a, (M.ins i).op, (M.se i).wo, 0, (M.ins i).a, 18⟩, M.turn i ((M.se i).a + 1)) := by rw [HSE.out]; exact st7 M i busy (by rw [HX.out.1]; exact h1) hw
        rw [HX.out.1, HX.out.2.1] at hS
        have HSS := Lib.hid hS
        have ew : ((M.se i).wo == 0) = false := by simpa using hw
        clear hS g1 g2 g3 g8 x1 x12 hw
        subst h1
        go_wp2_with fail
        go_meet
        exact Lib.hid (B3.sw HSS.out (se_turn _ _ _) ((HB3.out.e _ _).e _ _) (by simp) (by simp))
    · obtain ⟨jb, jd, hjb, hjd, hb4, hd4, hc1, hc4⟩ := g8 h1
      have hjb : xb = (jb : Int) := hjb
      have hjd : xc = (jd : Int) := hjd
      have hS : S = (⟨i, (M.se i).a, (M.ins i).op, (M.se i).wo, (M.se i).r (M.ins i).b.toNat, (M.se i).r (M.ins i).c.toNat, (M.call (M.ins i).a (M.se i).wo ((M.se i).r (M.ins i).b.toNat) ((M.se i).r (M.ins i).c.toNat) busy).1⟩,
          ((M.call (M.ins i).a (M.se i).wo ((M.se i).r (M.ins i).b.toNat) ((M.se i).r (M.ins i).c.toNat) busy).2.setReg i (M.ins i).b.toNat (M.call (M.ins i).a (M.se i).wo ((M.se i).r (M.ins i).b.toNat) ((M.se i).r (M.ins i).c.toNat) busy).1).turn i ((M.se i).a + 1)) := by rw [HSE.out]; exact st8 M i busy (by rw [HX.out.1]; exact h1)
      rw [HX.out.1, HX.out.2.1] at hS
      have cell : ∀ j, j < 4 → W0.cell? ⟨w.heap.size + 1, 1 + j, none⟩ = some (.int .i64 ((M.se i).r j)) := fun j hj => by
        have : j = 0 ∨ j = 1 ∨ j = 2 ∨ j = 3 := by omega
        rcases this with rfl | rfl | rfl | rfl
        · exact k1
        · exact k2
        · exact k3
        · exact k4
      have cb := cell jb hb4
      have cd := cell jd hd4
      have hb4' : (jb : Int) < 4 := by omega
      have hd4' : (jd : Int) < 4 := by omega
      subst h1 hjb hjd
      dsimp only [Int.toNat_natCast] at hS
      obtain ⟨wd, hwd⟩ : ∃ v, v = (M.se i).r jb := ⟨_, rfl⟩
      obtain ⟨tv, htv⟩ : ∃ v, v = (M.se i).r jd := ⟨_, rfl⟩
      rw [← hwd, ← htv] at hS
      rw [← hwd] at cb
      rw [← htv] at cd
      have HSS := Lib.hid hS
      have HJ := Lib.hid hb4
      have HB5 := Lib.hid ((HB3.out.e 4 (.int .i64 wd)).e 5 (.int .i64 tv))
      have HCL := Lib.hid (call_left M xa (M.se i).wo wd tv busy).2.2
      have HCA := Lib.hid (dcall_any HB5.out.dk hg xa (M.se i).wo wd tv busy)
      clear hS g1 g2 g3 g8 x1 x12 cell hb4 hd4 hwd htv hc1 hc4
      go_wp2_with fail
      refine HCA.out.mono ?_
      rintro e w1 ⟨rfl, hd, hr2⟩
      have HB6 := Lib.hid (HB5.out.go hd hr2)
      have HSS2 := HSS.out
      have HCL2 := HCL.out
      clear hd hr2 HCA HSS HCL
      obtain ⟨Cl, hCl⟩ : ∃ C, C = M.call xa (M.se i).wo wd tv busy := ⟨_, rfl⟩
      rw [← hCl] at HB6 HSS2 HCL2 ⊢
      obtain ⟨code, N⟩ := Cl
      have HSS := Lib.hid HSS2
      have HCL := Lib.hid HCL2
      clear hCl HSS2 HCL2 cb cd k0 k1 k2 k3 k4 k5 k6 kf kl v0 v1 v2 v3 v4 v5 v6 vf vl y0 y1 y2 y3 yf yl
      obtain ⟨k0, k1, k2, k3, k4, k5, k6, kf, kl⟩ := ev_cells (HB6.out.cx)
      have cb6 : w1.cell? ⟨w.heap.size + 1, 1 + jb, none⟩ = some (.int .i64 ((M.se i).r jb)) := by
        have hj := HJ.out
        have : jb = 0 ∨ jb = 1 ∨ jb = 2 ∨ jb = 3 := by omega
        rcases this with rfl | rfl | rfl | rfl
        · exact k1
        · exact k2
        · exact k3
        · exact k4
      have HEV := HB6.out.ev
      simp only [List.setIfInBounds_toArray, List.set_cons_succ, List.set_cons_zero] at HEV
      obtain ⟨v0, v1, v2, v3, v4, v5, v6, vf, vl⟩ := ev_cells HEV
      clear HEV
      go_wp2_with fail
      go_meet
      refine Lib.hid (B3.sw HSS.out ((se_turn _ _ _).trans (by rw [se_reg, HCL.out])) (((HB6.out.as (N := { N with se := M.se }) rfl HCL.out.symm rfl (fun _ _ => rfl)).e 6 _).c (1 + jb) _) ?_ (by simp))
      rw [reg_set4 HJ.out]
    · have hS : S = (⟨i, (M.se i).a, (M.ins i).op, (M.se i).wo, 0, (M.ins i).a, 0⟩, M.turn i (M.ins i).a) := by rw [HSE.out]; exact st9 M i busy (by rw [HX.out.1]; exact h1)
      rw [HX.out.1, HX.out.2.1] at hS
      have HSS := Lib.hid hS
      clear hS g1 g2 g3 g8 x1 x12
      subst h1
      go_wp2_with fail
      go_meet
      have c5 := Joins.block_setCell (i := 5) HBX.out.2.1 (.int .i64 xa)
      have r5 := (Below.heap_setCell (W0.setCell ⟨w.heap.size + 1, 5, none⟩ (.int .i64 xa)) ⟨w.heap.size + 3, 5, none⟩ (.int .i64 xa) w.heap.size (by simp)).trans ((Below.heap_setCell W0 ⟨w.heap.size + 1, 5, none⟩ (.int .i64 xa) w.heap.size (by simp)).trans HBX.out.1)
      have d5 := (Below.heap_setCell (W0.setCell ⟨w.heap.size + 1, 5, none⟩ (.int .i64 xa)) ⟨w.heap.size + 3, 5, none⟩ (.int .i64 xa) (w.heap.size + 1) (by simp)).trans c5
      have e5 := Joins.block_setCell (i := 5) ((Below.heap_setCell W0 ⟨w.heap.size + 1, 5, none⟩ (.int .i64 xa) (w.heap.size + 3) (by simp)).trans HBX.out.2.2.2) (.int .i64 xa)
      have hsz := H.out.sz
      have hsx := HD0.out.sz
      refine Lib.hid (Sw.mk2 HSS.out (se_turn M i _) r5 (by simpa using d5) (by simpa using e5) ?_ ?_)
      · exact (HD0.out.keep (fun k h1 h2 => Below.heap_setCell _ _ _ _ (by simp; omega)) (by simp)).keep (fun k h1 h2 => Below.heap_setCell _ _ _ _ (by simp; omega)) (by simp)
      · exact (HRG0.out.box2 (sc_grown _ _ _ _) (by omega)).box2 (sc_grown _ _ _ _) (by omega)
    · have hS : S = (⟨i, (M.se i).a, (M.ins i).op, (M.se i).wo, 0, (M.se i).r (M.ins i).a.toNat, 0⟩, M.turn i (if (M.se i).r (M.ins i).a.toNat = 0 then (M.ins i).b else (M.se i).a + 1)) := by rw [HSE.out]; exact st10 M i busy (by rw [HX.out.1]; exact h1)
      rw [HX.out.1, HX.out.2.1] at hS
      obtain ⟨ja, hja, hj4⟩ := g1 (.inr h1)
      have hja : xa = (ja : Int) := hja
      subst h1 hja
      dsimp only [Int.toNat_natCast] at hS
      have : ja = 0 ∨ ja = 1 ∨ ja = 2 ∨ ja = 3 := by omega
      clear g1 g2 g3 g8 x1 x12
      rcases this with rfl | rfl | rfl | rfl
      · by_cases hz : (M.se i).r 0 = 0
        · rw [if_pos hz] at hS
          have HSS := Lib.hid hS
          have ez : ((M.se i).r 0 == 0) = true := by simpa using hz
          clear hS hz
          go_wp2_with fail
          go_meet
          exact Lib.hid (B3.sw HSS.out (se_turn _ _ _) ((HB3.out.e _ _).c _ _) (by simp) (by simp))
        · rw [if_neg hz] at hS
          have HSS := Lib.hid hS
          have ez : ((M.se i).r 0 == 0) = false := by simpa using hz
          clear hS hz
          go_wp2_with fail
          go_meet
          exact Lib.hid (B3.sw HSS.out (se_turn _ _ _) (HB3.out.e _ _) (by simp) (by simp))
      · by_cases hz : (M.se i).r 1 = 0
        · rw [if_pos hz] at hS
          have HSS := Lib.hid hS
          have ez : ((M.se i).r 1 == 0) = true := by simpa using hz
          clear hS hz
          go_wp2_with fail
          go_meet
          exact Lib.hid (B3.sw HSS.out (se_turn _ _ _) ((HB3.out.e _ _).c _ _) (by simp) (by simp))
        · rw [if_neg hz] at hS
          have HSS := Lib.hid hS
          have ez : ((M.se i).r 1 == 0) = false := by simpa using hz
          clear hS hz
          go_wp2_with fail
          go_meet
          exact Lib.hid (B3.sw HSS.out (se_turn _ _ _) (HB3.out.e _ _) (by simp) (by simp))
      · by_cases hz : (M.se i).r 2 = 0
        · rw [if_pos hz] at hS
          have HSS := Lib.hid hS
          have ez : ((M.se i).r 2 == 0) = true := by simpa using hz
          clear hS hz
          go_wp2_with fail
          go_meet
          exact Lib.hid (B3.sw HSS.out (se_turn _ _ _) ((HB3.out.e _ _).c _ _) (by simp) (by simp))
        · rw [if_neg hz] at hS
          have HSS := Lib.hid hS
          have ez : ((M.se i).r 2 == 0) = false := by simpa using hz
          clear hS hz
          go_wp2_with fail
          go_meet
          exact Lib.hid (B3.sw HSS.out (se_turn _ _ _) (HB3.out.e _ _) (by simp) (by simp))
      · by_cases hz : (M.se i).r 3 = 0
        · rw [if_pos hz] at hS
          have HSS := Lib.hid hS
          have ez : ((M.se i).r 3 == 0) = true := by simpa using hz
          clear hS hz
          go_wp2_with fail
          go_meet
          exact Lib.hid (B3.sw HSS.out (se_turn _ _ _) ((HB3.out.e _ _).c _ _) (by simp) (by simp))
        · rw [if_neg hz] at hS
          have HSS := Lib.hid hS
          have ez : ((M.se i).r 3 == 0) = false := by simpa using hz
          clear hS hz
          go_wp2_with fail
          go_meet
          exact Lib.hid (B3.sw HSS.out (se_turn _ _ _) (HB3.out.e _ _) (by simp) (by simp))
  case rest =>
    have HS := hcut
    clear hcut HB0 HBX
    have t0 : wc.cell? ⟨q, 0, none⟩ = some (.slice (some ⟨bL, 0, none⟩) M.nc cl) := by
      have e : ({ S.2 with se := M.se } : Ma).nc = M.nc := by rw [HSE.out]; exact (lk_step M i busy).nc
      rw [← e]; exact HS.out.dk.tops.1
    obtain ⟨d0, d1, d2, d3, d4, d5, d6, df, dl⟩ := ev_cells HS.out.cx
    obtain ⟨v0, v1, v2, v3, v4, v5, v6, vf, vl⟩ := ev_cells HS.out.ev
    obtain ⟨z0, z1, z2, z3, z4, z5, z6, zf, zl⟩ := ev_cells HS.out.rs
    obtain ⟨l1, l2, l3, l4⟩ := HS.out.dk.lt
    obtain ⟨y0, y1, y2, y3, y4, y5, y6, yf⟩ := HS.out.dk.core i (by
      have e : ({ S.2 with se := M.se } : Ma).nc = M.nc := by rw [HSE.out]; exact (lk_step M i busy).nc
      rw [e]; exact hi')
    obtain ⟨s9, hs9⟩ : ∃ s, s = S.2.se i := ⟨_, rfl⟩
    rw [← hs9] at d1 d2 d3 d4 d5 d6
    have HS9 := Lib.hid hs9
    clear hs9
    go_step
    go_wp2_with fail
    go_region
    go_wp2_with fail
    have hnc : ({ S.2 with se := M.se } : Ma).nc = M.nc := by rw [HSE.out]; exact (lk_step M i busy).nc
    have hcs := HS.out.dk.core_set i (by rw [hnc]; exact hi') s9 (by rw [HS9.out, HSE.out]; exact (lk_step M i busy).ps)
    rw [HX.out.2.2] at hcs
    have hsz := H.out.sz
    have hwl := lt_of HS.out.rs
    obtain ⟨b1, b2, b3, b4, b5, b6, b7, b8⟩ := HS.out.dk.bd
    have hrg := ((((((HS.out.rg.cell ⟨b3, b4⟩ (i * 7) (.slice (some ⟨b, off, none⟩) (M.se i).ps.length c)).cell ⟨b3, b4⟩ (i * 7 + 1) (.int .i64 (s9.r 0))).cell ⟨b3, b4⟩ (i * 7 + 2) (.int .i64 (s9.r 1))).cell ⟨b3, b4⟩ (i * 7 + 3) (.int .i64 (s9.r 2))).cell ⟨b3, b4⟩ (i * 7 + 4) (.int .i64 (s9.r 3))).cell ⟨b3, b4⟩ (i * 7 + 5) (.int .i64 s9.a)).cell ⟨b3, b4⟩ (i * 7 + 6) (.int .i64 s9.wo)
    obtain ⟨V, hV⟩ : ∃ V, V = ((((((wc.setCell ⟨bL, i * 7, none⟩ (.slice (some ⟨b, off, none⟩) (M.se i).ps.length c)).setCell ⟨bL, i * 7 + 1, none⟩ (.int .i64 (s9.r 0))).setCell ⟨bL, i * 7 + 2, none⟩ (.int .i64 (s9.r 1))).setCell ⟨bL, i * 7 + 3, none⟩ (.int .i64 (s9.r 2))).setCell ⟨bL, i * 7 + 4, none⟩ (.int .i64 (s9.r 3))).setCell ⟨bL, i * 7 + 5, none⟩ (.int .i64 s9.a)).setCell ⟨bL, i * 7 + 6, none⟩ (.int .i64 s9.wo) := ⟨_, rfl⟩
    rw [← hV] at hcs hrg ⊢
    have hne : w.heap.size ≠ bL := by omega
    have hrs : V.heap[w.heap.size]? = some (.cells #[.int .i64 0, .int .i64 0, .int .i64 0, .int .i64 0, .int .i64 0, .int .i64 0, .int .i64 0] 132 (0, 0)) := by
      rw [hV, Below.heap_setCell _ _ _ _ hne, Below.heap_setCell _ _ _ _ hne, Below.heap_setCell _ _ _ _ hne, Below.heap_setCell _ _ _ _ hne, Below.heap_setCell _ _ _ _ hne, Below.heap_setCell _ _ _ _ hne, Below.heap_setCell _ _ _ _ hne]
      exact HS.out.rs
    have hg7 := set7_grown V w.heap.size (.int .i64 S.1.co) (.int .i64 S.1.a) (.int .i64 S.1.op) (.int .i64 S.1.wo) (.int .i64 S.1.wd) (.int .i64 S.1.va) (.int .i64 S.1.cd)
    have hx7 := set7_blk (.int .i64 S.1.co) (.int .i64 S.1.a) (.int .i64 S.1.op) (.int .i64 S.1.wo) (.int .i64 S.1.wd) (.int .i64 S.1.va) (.int .i64 S.1.cd) hrs
    unfold set7 at hg7 hx7
    obtain ⟨e0, e1, e2, e3, e4, e5, e6, _, _⟩ := ev_cells hx7
    (try simp only [Exit.inBlock, Exit.then]); refine bodyPost_ret (by simp [results, Tryd.results63, go_sem, e0, e1, e2, e3, e4, e5, e6]; try rfl) rfl ?_
    have hdk := hcs.keep (fun k h1 h2 => hg7.block k (by have := hcs.sz; omega) (fun e => by have := Option.some.inj e; omega)) hg7.size
    refine ⟨rfl, (hdk.as (N := S.2) rfl ?_ rfl (fun _ _ => rfl)).ext (ext_drew (Below.refl _ _)), (hrg.box2 hg7 (Nat.le_refl _)).extr2 (ext_drew (Below.refl _ _))⟩
    funext j
    show S.2.se j = updN M.se i s9 j
    by_cases hj : j = i
    · rw [hj, updN_same, HS9.out]
    · rw [updN_ne _ _ hj, HSE.out]
      exact (lk_step M i busy).se j hj
end
end Go.Proofs.YtkobeajbiendlaaDoor
