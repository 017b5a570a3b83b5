/- What this text holds: the walk of the law PlaceLines. Condition: the table of limits holds what its initialiser lays. -/
import Derived.Test.YtnbdaffbmpbfjaaDoorLinesOf
import Derived.Test.YtnbdaffbmpbfjaaDoorL01A
import Derived.Lib.SmallJoins
namespace Go.Proofs.YtnbdaffbmpbfjaaDoor
open Go.RowKit Go.Shelf
attribute [local go_sem] Oper.semAt_some

theorem seq_nil (w : World) (f : Fn) (a b : Array Value) : (binOp .eql 40 (.func f a b) .nilFunc).run Tryd.prog w = .ok (.bool false) w := by
  have h : ∀ d : Nat, (Op.equalIn (d + 1) 40 (.func f a b) .nilFunc).run Tryd.prog w = .ok false w := fun d => by
    simp [Op.equalIn, run_underlying Tryd.underlying40]
  simp only [binOp]
  simp [Op.equal, Op.maxDepth, h 9999]

theorem al {W : World} {o x : Obj} {k : Nat} (h : W.heap[k]? = some x) : (W.alloc o).heap[k]? = some x := (Below.heap_alloc W o k (Array.getElem?_eq_some_iff.1 h).1).trans h
theorem nw {W : World} {o : Obj} {k : Nat} (hk : k = W.heap.size) : (W.alloc o).heap[k]? = some o := by rw [hk]; exact World.alloc_heap_new W o
/-- The world at the loop. -/
def start01 (c : Cfg) (g : Int) (w : World) : World :=
  (((((w.alloc (.cells #[.int .i64 c.co, .int .i64 c.gr, .int .i64 c.se, .int .i64 c.wa, .int .i64 c.de, .int .i64 c.en, .int .i64 c.ba] 23)).alloc (.cells #[.int .i64 g] 3)).alloc (.cells #[.bool false] 4)).alloc (.cells #[.int .i64 c.co, .int .i64 c.gr, .int .i64 c.se, .int .i64 c.wa, .int .i64 c.de, .int .i64 c.en, .int .i64 c.ba] 23)).alloc (.cells #[.int .i64 g] 3)).alloc (.cells #[.int .i64 0] 3)
theorem start01_facts (c : Cfg) (g : Int) (w : World) : (start01 c g w).heap.size = w.heap.size + 6 ∧ (start01 c g w).heap[w.heap.size]? = some (.cells #[.int .i64 c.co, .int .i64 c.gr, .int .i64 c.se, .int .i64 c.wa, .int .i64 c.de, .int .i64 c.en, .int .i64 c.ba] 23 (0, 0)) ∧
    (start01 c g w).heap[w.heap.size + 1]? = some (.cells #[.int .i64 g] 3 (0, 0)) ∧ (start01 c g w).heap[w.heap.size + 2]? = some (.cells #[.bool false] 4 (0, 0)) ∧
    (start01 c g w).heap[w.heap.size + 3]? = some (.cells #[.int .i64 c.co, .int .i64 c.gr, .int .i64 c.se, .int .i64 c.wa, .int .i64 c.de, .int .i64 c.en, .int .i64 c.ba] 23 (0, 0)) ∧ (start01 c g w).heap[w.heap.size + 4]? = some (.cells #[.int .i64 g] 3 (0, 0)) ∧
    (start01 c g w).heap[w.heap.size + 5]? = some (.cells #[.int .i64 0] 3 (0, 0)) ∧ Below w.heap.size w (start01 c g w) := by
  refine ⟨by simp [start01], al (al (al (al (al (nw rfl))))), al (al (al (al (nw (by simp))))), al (al (al (nw (by simp)))), al (al (nw (by simp))), al (nw (by simp)), nw (by simp), ?_⟩
  unfold start01
  exact (by repeat (with_reducible first | exact Below.refl _ _ | assumption | (refine ext_next (by assumption) ?_) | apply ext_alloc | apply ext_past | apply ext_drew | apply ext_drewN))

/-- The lines stand where they should. -/
def good01 {c : Cfg} {g : Int} (pre : List (Ln c g)) : Prop := ∀ i (h : i < pre.length), (pre[i]).1 = 2 * g + i

theorem one_frozen {W : World} {B : Nat} {v : Value} {t : TypeId} (h : W.heap[B]? = some (.cells #[v] t (0, 0))) : W.frozen? ⟨B, 0, none⟩ = false := by
  simp [World.frozen?, h]
theorem good_lns (c : Cfg) (g : Int) : good01 (lns c g) := by
  by_cases h : has c g
  · have hl : lns c g = [⟨g * 2, h, .inl rfl⟩, ⟨g * 2 + 1, h, .inr rfl⟩] := dif_pos h
    rw [hl]
    intro i hi
    have h2 : i < 2 := hi
    have : i = 0 ∨ i = 1 := by omega
    rcases this with rfl | rfl
    · show g * 2 = 2 * g + (0 : Int); omega
    · show g * 2 + 1 = 2 * g + (1 : Int); omega
  · have hl : lns c g = [] := dif_neg h
    rw [hl]
    intro i hi
    exact absurd hi (Nat.not_lt_zero _)
theorem good_pre {c : Cfg} {g : Int} {pre l : List (Ln c g)} (h : good01 l) (hp : pre <+: l) : good01 pre := fun i hi => by
  obtain ⟨t, rfl⟩ := hp
  have := h i (by simp; omega)
  rwa [List.getElem_append_left hi] at this
theorem good_snoc {c : Cfg} {g : Int} {pre : List (Ln c g)} (h : good01 pre) {x : Ln c g} (hx : x.1 = 2 * g + pre.length) : good01 (pre ++ [x]) := fun i hi => by
  rw [List.getElem_append]
  split
  · exact h i _
  · have : i = pre.length := by simp at hi; omega
    subst this
    simpa using hx
theorem not_good {c : Cfg} {g : Int} {pre : List (Ln c g)} {x : Ln c g} (hx : ¬ x.1 = 2 * g + pre.length) : ¬ good01 (pre ++ [x]) := fun h => by
  have := h pre.length (by simp)
  simp at this
  exact hx this

set_option maxRecDepth 100000 in
set_option maxHeartbeats 4000000 in
theorem placeLines_walk (c : Cfg) (g : Int) (w : World) (hL : Lims w) :
    Calls Tryd.prog 5 #[.agg #[.int .i64 c.co, .int .i64 c.gr, .int .i64 c.se, .int .i64 c.wa, .int .i64 c.de, .int .i64 c.en, .int .i64 c.ba], .int .i64 g] w fun e w' => e = .returned (.bool true) ∧ Below w.heap.size w w' := by
  refine (callsIn_wide (n := 6)).1 ?_
  have hro : Fence.wide.round = none := rfl
  refine callsIn_of_wp_marks Tryd.func5 rfl trivial ?_ hro
  simp only [Tryd.ntmps5, List.size_toArray, List.length_cons, List.length_nil, Nat.reduceAdd, Nat.reduceSub, Array.replicate_succ, Array.replicate_zero, List.push_toArray, List.append_toArray, List.nil_append, List.cons_append]
  have hq := seq_nil
  gi_wp2_with (refine ⟨trivial, ?_⟩; gi_at_call 24; refine (callsIn_wide.2 (linesof_any c g _)).mono ?_; rintro e w' ⟨rfl, rfl⟩)
  obtain ⟨f0, f1, f2, f3, f4, f5, f6, f7⟩ := start01_facts c g w
  have hL0 : Lims (start01 c g w) := hL.ext f7
  refine wpIn_rangeFunc_ownF hro (by omega) (gf := 42) (lb := #[.pointer (some ⟨w.heap.size + 1 + 1 + 1, 0, none⟩), .pointer (some ⟨w.heap.size + 1 + 1 + 1 + 1, 0, none⟩)]) rfl trivial (enters_of Tryd.func42 (by kernel_rfl) rfl)
    (linesOf_stops (6 - 1) (by omega) c g (w.heap.size + 1 + 1 + 1) (start01 c g w) hL0 (by rw [f0]; omega) f4 f5) (fun h k => h.trans k) (fun W l o o' hl ho hc hw => ?kp) (Below.refl _ _) (fun _ => rfl)
    (fun pre W => (W.heap[w.heap.size]? = some (.cells #[.int .i64 c.co, .int .i64 c.gr, .int .i64 c.se, .int .i64 c.wa, .int .i64 c.de, .int .i64 c.en, .int .i64 c.ba] 23 (0, 0)) ∧ W.heap[w.heap.size + 1]? = some (.cells #[.int .i64 g] 3 (0, 0)) ∧ W.heap[w.heap.size + 2]? = some (.cells #[.bool false] 4 (0, 0)) ∧
      W.heap[w.heap.size + 5]? = some (.cells #[.int .i64 pre.length] 3 (0, 0)) ∧ good01 pre) ∧ Below w.heap.size w W)
    (fun cc pre _ => cc = .ret ∧ ¬ good01 pre)
    (OwnFrom.and (Own.from (fun s A B row hs hg hr => ⟨blk_kept hs.1 hg hr, blk_kept hs.2.1 hg hr, blk_kept hs.2.2.1 hg hr, blk_kept hs.2.2.2.1 hg hr, hs.2.2.2.2⟩) _) (ownFrom_below (Nat.le_refl _) (by simp; omega)))
    (fun _ _ _ _ _ hs _ _ => hs)
    ⟨⟨f1, f2, f3, f6, fun i h => absurd h (by simp)⟩, f7⟩
    (fun x => { tmps := #[.agg #[.int .i64 c.co, .int .i64 c.gr, .int .i64 c.se, .int .i64 c.wa, .int .i64 c.de, .int .i64 c.en, .int .i64 c.ba], .int .i64 g, .pointer (some ⟨w.heap.size, 0, none⟩), .pointer (some ⟨w.heap.size + 1, 0, none⟩), .pointer (some ⟨w.heap.size + 1 + 1, 0, none⟩), .func (.func 42) #[] #[.pointer (some ⟨w.heap.size + 1 + 1 + 1, 0, none⟩), .pointer (some ⟨w.heap.size + 1 + 1 + 1 + 1, 0, none⟩)], .pointer (some ⟨w.heap.size + 1 + 1 + 1 + 1 + 1, 0, none⟩), .int .i64 x.1, undef, undef, undef, .agg #[.int .i64 c.co, .int .i64 c.gr, .int .i64 c.se, .int .i64 c.wa, .int .i64 c.de, .int .i64 c.en, .int .i64 c.ba], .int .i64 g, .func (.func 42) #[] #[.pointer (some ⟨w.heap.size + 1 + 1 + 1, 0, none⟩), .pointer (some ⟨w.heap.size + 1 + 1 + 1 + 1, 0, none⟩)], .func (.func 42) #[] #[.pointer (some ⟨w.heap.size + 1 + 1 + 1, 0, none⟩), .pointer (some ⟨w.heap.size + 1 + 1 + 1 + 1, 0, none⟩)], .bool false, .func (.func 42) #[] #[.pointer (some ⟨w.heap.size + 1 + 1 + 1, 0, none⟩), .pointer (some ⟨w.heap.size + 1 + 1 + 1 + 1, 0, none⟩)], .int .i64 x.1, undef, undef, undef, undef, undef, undef, undef, undef, undef, undef, undef, undef, undef, undef, undef, undef, undef, undef, undef, undef, undef, undef, undef, undef, undef, undef, undef, undef, undef, undef, undef, undef, undef, undef, undef, undef, undef, undef, undef, undef, undef], defers := [] }) ?assign ?body ?done ?stop
  case kp => exact ⟨World.putObj_heap_other (by simp at hl; omega), World.putObj_heap_other (by simp at hl; omega)⟩
  case assign =>
    intro l x W K hK
    gi_wp2
    exact hK
  case body =>
    rintro l pre x W ⟨⟨b0, b1, b2, b5, hg⟩, hB⟩ hlen
    have hLW : Lims W := hL.ext hB
    obtain ⟨k0, k1, k2, k3, k4, k5, k6⟩ := cfg_cells b0
    have kg := one_cell b1
    have kr := one_cell b2
    have kn := one_cell b5
    have fr := one_frozen b2
    have fn := one_frozen b5
    have hx0 := x.2.1
    have hx1 := x.2.2
    have hgb := hx0.2
    have hgr := hx0.1.2.1.2
    have hli := lin_ok hx0.1
    have hdiv : x.1 / 2 = g := by rcases hx1 with h | h <;> omega
    have hx2 : 0 ≤ x.1 ∧ x.1 < lin c := by rw [hli]; rcases hx1 with h | h <;> omega
    have s5 : w.heap.size + 5 < W.heap.size := (Array.getElem?_eq_some_iff.1 b5).1
    have s0 : w.heap.size < W.heap.size := by omega
    have s1 : w.heap.size + 1 < W.heap.size := by omega
    have s2 : w.heap.size + 2 < W.heap.size := by omega
    have HX := Lib.hid hx1
    have HG := Lib.hid hg
    clear hx0 hx1 hli hg
    have hpl : pre.length ≤ 1 := by omega
    by_cases hxq : x.1 = 2 * g + pre.length
    · rw [hxq] at hx2 hdiv
      obtain ⟨hx3, hx4⟩ := hx2
      gi_wp2_with fail
      refine ⟨trivial, ?_⟩
      refine (CallsIn.inRound l (callsIn_wide.2 (gran_ok c (2 * g + pre.length) _ hLW hx3 hx4))).mono ?_
      rintro e W1 ⟨rfl, hb1⟩
      rw [hdiv]
      obtain ⟨hc1, hf1⟩ := bcell hb1
      gi_wp2
      have oth : ∀ k, k < W.heap.size → k ≠ w.heap.size + 5 → (W1.setCell ⟨w.heap.size + 1 + 1 + 1 + 1 + 1, 0, none⟩ (.int .i64 (pre.length + 1))).heap[k]? = W.heap[k]? := fun k h1 h2 => (Below.heap_setCell W1 _ _ k (by simpa using h2)).trans (hb1.block k h1)
      have own := Joins.block_setCell (i := 0) ((hb1.block _ s5).trans b5) (.int .i64 (pre.length + 1))
      refine ⟨(KeepsOthers.of_grownBy (grown_of_below hb1) (fun j o e => by cases e)).trans (KeepsOthers.setCell _ _ _), ⟨oth _ (by omega) (by omega), oth _ (by omega) (by omega)⟩,
        ⟨(oth _ s0 (by omega)).trans b0, (oth _ s1 (by omega)).trans b1, (oth _ s2 (by omega)).trans b2, by simpa using own, good_snoc HG.out hxq⟩, (hB.trans (hb1.mono hB.size)).setCell (p := ⟨w.heap.size + 1 + 1 + 1 + 1 + 1, 0, none⟩) (by simp; omega) _⟩
    · obtain ⟨hx3, hx4⟩ := hx2
      gi_wp2_with fail
      refine ⟨trivial, ?_⟩
      refine (CallsIn.inRound l (callsIn_wide.2 (gran_ok c x.1 _ hLW hx3 hx4))).mono ?_
      rintro e W1 ⟨rfl, hb1⟩
      rw [hdiv]
      obtain ⟨hc1, hf1⟩ := bcell hb1
      gi_wp2
      exact ⟨(KeepsOthers.of_grownBy (grown_of_below hb1) (fun j o e => by cases e)).trans (KeepsOthers.setCell _ _ _), rfl, not_good hxq⟩
  case done =>
    rintro D ys W hD rfl ⟨⟨b0, b1, b2, b5, hg⟩, hB⟩ hK
    have hLW : Lims W := hL.ext hB
    obtain ⟨k0, k1, k2, k3, k4, k5, k6⟩ := cfg_cells b0
    have kg := one_cell b1
    have kr := one_cell b2
    have kn := one_cell b5
    have fr := one_frozen b2
    have s5 : w.heap.size + 5 < W.heap.size := (Array.getElem?_eq_some_iff.1 b5).1
    have s0 : w.heap.size < W.heap.size := by omega
    have s1 : w.heap.size + 1 < W.heap.size := by omega
    have s2 : w.heap.size + 2 < W.heap.size := by omega
    clear b0 b1 b2 b5 hg
    by_cases h : has c g
    · have hlen : (lns c g).length = 2 := by unfold lns; rw [dif_pos h]; rfl
      rw [hlen] at kn
      have hm := Lib.hid (mayB_yes h.1)
      obtain ⟨_, h2, h3⟩ := h
      gi_wp2_with fail
      refine ⟨trivial, ?_⟩
      refine (callsIn_wide.2 (may_any c _)).mono ?_
      rintro e W1 ⟨rfl, hb1⟩
      rw [hm.out]
      obtain ⟨hc1, hf1⟩ := bcell hb1
      gi_wp2_with fail
      refine ⟨trivial, ?_⟩
      refine (callsIn_wide.2 (awake01 _ (hLW.ext hb1))).mono ?_
      rintro e W2 ⟨rfl, hb2⟩
      have hb3 : Below W.heap.size W W2 := hb1.trans (hb2.mono hb1.size)
      have hkr : W2.cell? ⟨w.heap.size + 1 + 1, 0, none⟩ = some (.bool false) := (hb3.cell (p := ⟨w.heap.size + 1 + 1, 0, none⟩) s2).trans kr
      have hfr : W2.frozen? ⟨w.heap.size + 1 + 1, 0, none⟩ = false := (hb3.frozen (p := ⟨w.heap.size + 1 + 1, 0, none⟩) s2).trans fr
      gi_wp2
      have hK2 : W2.heap[D]? = some (.deferred (some [])) := (hb3.block D (Array.getElem?_eq_some_iff.1 hK).1).trans hK
      have hK' := (KeepsOthers.setCell W2 ⟨w.heap.size + 1 + 1, 0, none⟩ (.bool true)).same D _ hK2 rfl
      refine ⟨by simp, .inl ⟨_, _, rfl, run_takeDeferred hK', ?_⟩⟩
      have hc5 := cell_kept (World.cell?_setCell_same' W2 ⟨w.heap.size + 1 + 1, 0, none⟩ (.bool true) (by rw [hkr]; rfl)) (grownBy_putObj' _ D (.deferred none)) (fun r e => by cases e; exact ⟨_, hK', rfl⟩)
      refine ⟨.bool true, ?_, rfl, ((hB.trans (hb3.mono hB.size)).setCell (p := ⟨w.heap.size + 1 + 1, 0, none⟩) (by simp; omega) _).trans (belowK_b (w := w) (Nat.le_refl _) _ D _ _ (by simp at hD; omega) hK' rfl rfl)⟩
      simp [results, Tryd.f5, go_sem, hc5]
    · have hlen : (lns c g).length = 0 := by unfold lns; rw [dif_neg h]; rfl
      rw [hlen] at kn
      by_cases hok : c.ok
      · have hm := Lib.hid (mayB_yes hok)
        by_cases hg0 : g < 0
        · clear h hok
          gi_wp2_with fail
          refine ⟨trivial, ?_⟩
          refine (callsIn_wide.2 (may_any c _)).mono ?_
          rintro e W1 ⟨rfl, hb1⟩
          rw [hm.out]
          obtain ⟨hc1, hf1⟩ := bcell hb1
          gi_wp2_with fail
          refine ⟨trivial, ?_⟩
          refine (callsIn_wide.2 (awake01 _ (hLW.ext hb1))).mono ?_
          rintro e W2 ⟨rfl, hb2⟩
          have hb3 : Below W.heap.size W W2 := hb1.trans (hb2.mono hb1.size)
          have hkr : W2.cell? ⟨w.heap.size + 1 + 1, 0, none⟩ = some (.bool false) := (hb3.cell (p := ⟨w.heap.size + 1 + 1, 0, none⟩) s2).trans kr
          have hfr : W2.frozen? ⟨w.heap.size + 1 + 1, 0, none⟩ = false := (hb3.frozen (p := ⟨w.heap.size + 1 + 1, 0, none⟩) s2).trans fr
          gi_wp2
          have hK2 : W2.heap[D]? = some (.deferred (some [])) := (hb3.block D (Array.getElem?_eq_some_iff.1 hK).1).trans hK
          have hK' := (KeepsOthers.setCell W2 ⟨w.heap.size + 1 + 1, 0, none⟩ (.bool true)).same D _ hK2 rfl
          refine ⟨by simp, .inl ⟨_, _, rfl, run_takeDeferred hK', ?_⟩⟩
          have hc5 := cell_kept (World.cell?_setCell_same' W2 ⟨w.heap.size + 1 + 1, 0, none⟩ (.bool true) (by rw [hkr]; rfl)) (grownBy_putObj' _ D (.deferred none)) (fun r e => by cases e; exact ⟨_, hK', rfl⟩)
          refine ⟨.bool true, ?_, rfl, ((hB.trans (hb3.mono hB.size)).setCell (p := ⟨w.heap.size + 1 + 1, 0, none⟩) (by simp; omega) _).trans (belowK_b (w := w) (Nat.le_refl _) _ D _ _ (by simp at hD; omega) hK' rfl rfl)⟩
          simp [results, Tryd.f5, go_sem, hc5]
        · have hg2 : c.gr ≤ g := by
            by_cases hx : c.gr ≤ g
            · exact hx
            · exact absurd ⟨hok, by omega, by omega⟩ h
          clear h hok
          gi_wp2_with fail
          refine ⟨trivial, ?_⟩
          refine (callsIn_wide.2 (may_any c _)).mono ?_
          rintro e W1 ⟨rfl, hb1⟩
          rw [hm.out]
          obtain ⟨hc1, hf1⟩ := bcell hb1
          gi_wp2_with fail
          refine ⟨trivial, ?_⟩
          refine (callsIn_wide.2 (awake01 _ (hLW.ext hb1))).mono ?_
          rintro e W2 ⟨rfl, hb2⟩
          have hb3 : Below W.heap.size W W2 := hb1.trans (hb2.mono hb1.size)
          have hkr : W2.cell? ⟨w.heap.size + 1 + 1, 0, none⟩ = some (.bool false) := (hb3.cell (p := ⟨w.heap.size + 1 + 1, 0, none⟩) s2).trans kr
          have hfr : W2.frozen? ⟨w.heap.size + 1 + 1, 0, none⟩ = false := (hb3.frozen (p := ⟨w.heap.size + 1 + 1, 0, none⟩) s2).trans fr
          gi_wp2
          have hK2 : W2.heap[D]? = some (.deferred (some [])) := (hb3.block D (Array.getElem?_eq_some_iff.1 hK).1).trans hK
          have hK' := (KeepsOthers.setCell W2 ⟨w.heap.size + 1 + 1, 0, none⟩ (.bool true)).same D _ hK2 rfl
          refine ⟨by simp, .inl ⟨_, _, rfl, run_takeDeferred hK', ?_⟩⟩
          have hc5 := cell_kept (World.cell?_setCell_same' W2 ⟨w.heap.size + 1 + 1, 0, none⟩ (.bool true) (by rw [hkr]; rfl)) (grownBy_putObj' _ D (.deferred none)) (fun r e => by cases e; exact ⟨_, hK', rfl⟩)
          refine ⟨.bool true, ?_, rfl, ((hB.trans (hb3.mono hB.size)).setCell (p := ⟨w.heap.size + 1 + 1, 0, none⟩) (by simp; omega) _).trans (belowK_b (w := w) (Nat.le_refl _) _ D _ _ (by simp at hD; omega) hK' rfl rfl)⟩
          simp [results, Tryd.f5, go_sem, hc5]
      · have hm := Lib.hid (mayB_no hok)
        clear h hok
        gi_wp2_with fail
        refine ⟨trivial, ?_⟩
        refine (callsIn_wide.2 (may_any c _)).mono ?_
        rintro e W1 ⟨rfl, hb1⟩
        rw [hm.out]
        obtain ⟨hc1, hf1⟩ := bcell hb1
        gi_wp2_with fail
        refine ⟨trivial, ?_⟩
        refine (callsIn_wide.2 (awake01 _ (hLW.ext hb1))).mono ?_
        rintro e W2 ⟨rfl, hb2⟩
        have hb3 : Below W.heap.size W W2 := hb1.trans (hb2.mono hb1.size)
        have hkr : W2.cell? ⟨w.heap.size + 1 + 1, 0, none⟩ = some (.bool false) := (hb3.cell (p := ⟨w.heap.size + 1 + 1, 0, none⟩) s2).trans kr
        have hfr : W2.frozen? ⟨w.heap.size + 1 + 1, 0, none⟩ = false := (hb3.frozen (p := ⟨w.heap.size + 1 + 1, 0, none⟩) s2).trans fr
        gi_wp2
        have hK2 : W2.heap[D]? = some (.deferred (some [])) := (hb3.block D (Array.getElem?_eq_some_iff.1 hK).1).trans hK
        have hK' := (KeepsOthers.setCell W2 ⟨w.heap.size + 1 + 1, 0, none⟩ (.bool true)).same D _ hK2 rfl
        refine ⟨by simp, .inl ⟨_, _, rfl, run_takeDeferred hK', ?_⟩⟩
        have hc5 := cell_kept (World.cell?_setCell_same' W2 ⟨w.heap.size + 1 + 1, 0, none⟩ (.bool true) (by rw [hkr]; rfl)) (grownBy_putObj' _ D (.deferred none)) (fun r e => by cases e; exact ⟨_, hK', rfl⟩)
        refine ⟨.bool true, ?_, rfl, ((hB.trans (hb3.mono hB.size)).setCell (p := ⟨w.heap.size + 1 + 1, 0, none⟩) (by simp; omega) _).trans (belowK_b (w := w) (Nat.le_refl _) _ D _ _ (by simp at hD; omega) hK' rfl rfl)⟩
        simp [results, Tryd.f5, go_sem, hc5]
  case stop =>
    rintro D cc pre W hD hpre ⟨rfl, hb⟩ hK
    exact absurd (good_pre (good_lns c g) hpre) hb

end Go.Proofs.YtnbdaffbmpbfjaaDoor
