/- What this text holds: a memory is the document's: same of the package of statements. Condition: the table of limits holds what its initialiser lays. -/
import Derived.Test.YtkfnjpmigifomaaDoorBankK
import Derived.Test.YtkfnjpmigifomaaDoorBankJ
import Derived.Test.YtkfnjpmigifomaaDoorRef02B
import Derived.Test.YtkfnjpmigifomaaDoorRmx
import Derived.Sort.LoopGhostIn
namespace Go.Proofs.YtkfnjpmigifomaaDoor
open Go.RowKit Go.Shelf
attribute [local go_sem] Oper.semAt_some

theorem lseq_nil (w : World) (f : Fn) (a b : Array Value) : (binOp .eql 55 (.func f a b) .nilFunc).run Tryd.prog w = .ok (.bool false) w := by
  have h : ∀ d : Nat, (Op.equalIn (d + 1) 55 (.func f a b) .nilFunc).run Tryd.prog w = .ok false w := fun d => by
    simp [Op.equalIn, run_underlying Tryd.underlying55]
  simp only [binOp]
  simp [Op.equal, Op.maxDepth, h 9999]

theorem rng_next {pre : List Nat} {n : Nat} (h : pre <+: List.range n) (hl : pre.length < n) : pre ++ [pre.length] <+: List.range n := by
  have e := List.prefix_iff_eq_take.1 h
  have e2 := range_take hl
  rw [← e] at e2
  rw [← e2]
  exact List.take_prefix _ _
theorem rng_only {pre : List Nat} {x n : Nat} (h : pre ++ [x] <+: List.range n) : x = pre.length := by
  have e := List.prefix_iff_eq_take.1 h
  have hl := h.length_le
  simp at hl
  have h1 : (pre ++ [x])[pre.length]? = some x := by simp
  rw [e, List.getElem?_take, if_pos (by simp), List.getElem?_range (by omega)] at h1
  exact (Option.some.inj h1).symm
set_option maxRecDepth 100000 in
set_option maxHeartbeats 4000000 in
theorem same02_yes {w : World} {lo hi p lo' hi' p' : Nat} {m : Mm} (h : Bm w lo hi p m) (hr : Rm w lo' hi' p' m) (hL : Lims w) :
    Calls Tryd.prog 28 #[.pointer (some ⟨p, 0, none⟩), .pointer (some ⟨p', 0, none⟩)] w fun e w' => e = .returned (.bool true) ∧ Below w.heap.size w w' := by
  have H := Lib.hid h
  have HR := Lib.hid hr
  have HL := Lib.hid hL
  have HA := Lib.hid (fun w1 (hb : Below w.heap.size w w1) => ball_ok (h.ext hb) (hL.ext hb))
  clear h hr hL
  refine (callsIn_wide (n := 6)).1 ?_
  have hro : Fence.wide.round = none := rfl
  refine callsIn_of_wp_marks Tryd.func28 rfl trivial ?_ hro
  simp only [Tryd.ntmps28, List.size_toArray, List.length_cons, List.length_nil, Nat.reduceAdd, Nat.reduceSub, Array.replicate_succ, Array.replicate_zero, List.push_toArray, List.append_toArray, List.nil_append, List.cons_append]
  have hq := lseq_nil
  gi_wp2_with fail
  refine ⟨trivial, (callsIn_wide.2 (HA.out _ (ext_alloc _ (ext_alloc _ (Below.refl _ _))))).mono ?_⟩
  rintro e w1 ⟨b, g, rfl, hal, hb, hg, hbb⟩
  have h3 := (hbb.block w.heap.size (by simp; omega)).trans (alOld (alNew rfl))
  have h4 := (hbb.block (w.heap.size + 1) (by simp)).trans (alNew (by simp))
  have HAL := Lib.hid hal
  have HBB := Lib.hid (ext_trans (ext_alloc _ (ext_alloc _ (Below.refl _ _))) hbb)
  have hbg := And.intro hb hg
  clear hal hbb HA
  gi_wp2_with fail
  obtain ⟨W0, hW0⟩ : ∃ W0, W0 = w1.alloc (.cells #[.int .i64 0] 3) := ⟨_, rfl⟩
  have f6 : W0.heap[w1.heap.size]? = some (.cells #[.int .i64 0] 3 (0, 0)) := by rw [hW0]; exact alNew rfl
  have f4 : W0.heap[w.heap.size + 1]? = some (.cells #[.bool false] 4 (0, 0)) := by rw [hW0]; exact alOld h4
  have f3 : w1.heap[w.heap.size]? = some (.cells #[.pointer (some ⟨p', 0, none⟩)] 36 (0, 0)) := h3
  have fs : W0.heap.size = w1.heap.size + 1 := by rw [hW0]; simp
  have fB : Below w1.heap.size w1 W0 := by rw [hW0]; exact ext_alloc _ (Below.refl _ _)
  have hbl := HAL.out.lt
  have HF3 := Lib.hid f3
  have hs3 := lt_of f3
  have hs4 := lt_of h4
  rw [← hW0]
  clear hW0 h3 h4 f3
  refine wpIn_rangeFunc_mix W0.heap.size [(7, 0)] 8 (fun W bx x => W.heap[bx]? = some (.cells #[.int .i64 (m.wd (2 * x)), .int .i64 (m.wd (2 * x + 1))] 26 (0, 0)))
    (fun x bx W W' row hs hg hr => blk_held hs hg hr) hro (by omega) (gf := 92) (lb := #[.pointer (some ⟨b, 0, none⟩)]) rfl trivial (enters_of Tryd.func92 (by kernel_rfl) rfl)
    (all_stops (6 - 1) (by omega) b g m.n m.wd W0 (HAL.out.ext fB) (by have := m.n_le; omega)) (fun h k => h.trans k) (fun W l o o' hl ho hc hw => ?kp) (Below.refl _ _) (fun _ => rfl)
    (fun pre W => (W.heap[w.heap.size + 1]? = some (.cells #[.bool false] 4 (0, 0)) ∧ W.heap[w1.heap.size]? = some (.cells #[.int .i64 pre.length] 3 (0, 0)) ∧ Hid (pre <+: List.range m.n)) ∧ Below w1.heap.size w1 W)
    (fun cc pre _ => cc = .ret ∧ ¬ pre <+: List.range m.n)
    (OwnFrom.and (Own.from (fun s A B row hs hg hr => ⟨blk_held hs.1 hg hr, blk_held hs.2.1 hg hr, hs.2.2⟩) _) (ownFrom_below (Nat.le_refl _) (by omega)))
    (fun _ _ _ _ _ hs _ _ => hs)
    ⟨⟨f4, f6, Lib.hid (List.nil_prefix)⟩, fB⟩ ?assign ?body ?done ?stop
  case kp => exact ⟨World.putObj_heap_other (by omega), World.putObj_heap_other (by omega)⟩
  case assign =>
    rintro l pre x W K ⟨⟨b4, b6, hp⟩, hB⟩ hK
    have hs := lt_of b6
    have h9 : ∀ X, Below W.heap.size W (W.alloc X) := fun X => (Below.refl _ W).alloc (Nat.le_refl _) X
    have hk := hK W.heap.size (W.alloc (.cells #[.int .i64 (m.wd (2 * x)), .int .i64 (m.wd (2 * x + 1))] 26)) (by omega) ((KeepsOthers.alloc _ _).from _) ⟨(h9 _).block _ (by omega), (h9 _).block _ (by omega)⟩ ⟨⟨alOld b4, alOld b6, hp⟩, hB.alloc (by omega) _⟩ (alNew rfl)
    gi_wp2
    unfold mixFrame at hk
    simpa using hk
  case body =>
    rintro l pre x bx W hl hr ⟨⟨b4, b6, hp⟩, hB⟩ hbx bX hlen
    have HBW := Lib.hid (ext_trans HBB.out hB)
    obtain ⟨q, cap, hrk⟩ := HR.out.ext HBW.out
    obtain ⟨k0, _⟩ := hrk.sl
    have y0 := hrk.wd (2 * pre.length) (by omega)
    have y1 := hrk.wd (2 * pre.length + 1) (by omega)
    obtain ⟨hpl, hql⟩ := hrk.lt
    have b3 := (hB.block _ hs3).trans HF3.out
    have k3 := cell_of b3
    have k6 := cell_of b6
    have k4 := cell_of b4
    have s3 := lt_of b3
    have s4 := lt_of b4
    have s6 := lt_of b6
    have g4 := free_of b4
    have g6 := free_of b6
    obtain ⟨x0, x1, _, _, xl⟩ := pair_at bX
    have hn32 := m.n_le
    have HB4 := Lib.hid b4
    have HB6 := Lib.hid b6
    have HB := Lib.hid hB
    clear hrk b3 bX b4 b6 hB
    have e1 : decide (((2 * m.n : Nat) : Int) ≤ 2 * (pre.length : Int) + 1) = false := by simp; omega
    have i0 : 2 * (pre.length : Int) < ((2 * m.n : Nat) : Int) := by omega
    have i1 : 2 * (pre.length : Int) + 1 < ((2 * m.n : Nat) : Int) := by omega
    have hp32 : (pre.length : Int) ≤ 32 := by omega
    have HLEN := Lib.hid hlen
    clear hn32 hlen
    generalize 2 * m.n = N2 at k0 e1 i0 i1
    by_cases hx : x = pre.length
    · have e0 : ((x : Int) != (pre.length : Int)) = false := by simp [hx]
      have HX := Lib.hid hx
      rw [hx] at x0 x1
      clear hx
      unfold mixFrame
      gi_wp2_with fail
      refine region_past_round (by kernel_rfl) (by kernel_rfl) (by kernel_rfl) ?_; (repeat (gi_big_quiet_step (fail))); refine wpQuietIn_nil ?_; rintro _ ⟨p, rfl⟩
      gi_wp2_with fail
      have hpb := p.below
      have oth : ∀ k, k < W.heap.size → k ≠ w1.heap.size → (p.val.setCell ⟨w1.heap.size, 0, none⟩ (.int .i64 (pre.length + 1))).heap[k]? = W.heap[k]? := fun k h1 h2 => (Below.heap_setCell p.val _ _ k (by simpa using h2)).trans (hpb.block k h1)
      have own := set_of ((hpb.block _ s6).trans HB6.out) (u := .int .i64 (pre.length + 1))
      refine ⟨((KeepsOthers.of_grownBy (grown_of hpb) (fun j o e => by cases e)).trans (KeepsOthers.setCell _ _ _)).from _, ⟨oth _ (by omega) (by omega), oth _ (by omega) (by omega)⟩,
        ⟨(oth _ s4 (by omega)).trans HB4.out, by simpa using own, Lib.hid (by rw [HX.out]; exact rng_next hp.out HLEN.out)⟩, (HB.out.trans (hpb.mono HB.out.size)).setCell (p := ⟨w1.heap.size, 0, none⟩) (Nat.le_refl _) _⟩
    · have e0 : ((x : Int) != (pre.length : Int)) = true := by simp; omega
      have HX := Lib.hid hx
      clear hx
      unfold mixFrame
      gi_wp2_with fail
      refine region_past_round (by kernel_rfl) (by kernel_rfl) (by kernel_rfl) ?_; (repeat (gi_big_quiet_step (fail))); refine wpQuietIn_nil ?_; rintro _ ⟨p, rfl⟩
      gi_wp2_with fail
      exact ⟨((KeepsOthers.of_grownBy (grown_of p.below) (fun j o e => by cases e)).trans (KeepsOthers.setCell _ _ _)).from _, rfl, fun h => HX.out (rng_only h)⟩
  case done =>
    rintro D ys W hD rfl ⟨⟨b4, b6, hp⟩, hB⟩ hK
    have hx := List.length_range (n := m.n)
    rw [hx] at b6
    clear hx
    have HBW := Lib.hid (ext_trans HBB.out hB)
    have HM := Lib.hid (H.out.ext HBW.out)
    have HRW := Lib.hid (HR.out.ext HBW.out)
    have HK := Lib.hid hK
    have HB4 := Lib.hid b4
    have HB6 := Lib.hid b6
    have HB3 := Lib.hid ((hB.block _ hs3).trans HF3.out)
    have HBw := Lib.hid hB
    clear hK b4 b6 hB hp
    obtain ⟨n1, n4, hnb⟩ := Mm.nb_of (m := m) (by obtain ⟨_, _, h⟩ := H.out; exact h.ok)
    have HNB := Lib.hid hnb
    clear hnb
    gi_wp2_with fail
    gi_loopg [9] (m.nb + 2) (fun gk s9 wr => ∃ z : Int, z + gk = m.nb + 1 ∧ -1 ≤ z ∧ s9 = .int .i64 z ∧ Hid (Below W.heap.size W wr))
    case atStart => exact ⟨-1, by omega, by omega, rfl, Lib.hid (Below.refl _ _)⟩
    case round =>
      obtain ⟨z, hz, hz1, rfl, HW⟩ := hrel
      have hrk := HRW.out.ext HW.out
      obtain ⟨q, cap, hrk⟩ := hrk
      obtain ⟨k0, k1⟩ := hrk.sl
      have HRK := Lib.hid hrk
      obtain ⟨hpl, hql⟩ := hrk.lt
      have b3 := (HW.out.block _ (lt_of HB3.out)).trans HB3.out
      have k3 := cell_of b3
      have s3 := lt_of b3
      rw [← HNB.out] at k1
      clear hrk b3
      by_cases hend : z = m.nb + 1
      · have e9 : decide (z ≤ (m.nb : Int)) = false := by simp; omega
        have hb6 := (HW.out.block _ (lt_of HB6.out)).trans HB6.out
        have hb4 := (HW.out.block _ (lt_of HB4.out)).trans HB4.out
        have hbd := (HW.out.block _ (lt_of HK.out)).trans HK.out
        have k6 := cell_of hb6
        have k4 := cell_of hb4
        have f4 := free_of hb4
        have s4 := lt_of hb4
        have s6 := lt_of hb6
        have HB4r := Lib.hid hb4
        have HBd := Lib.hid hbd
        have hn32 := m.n_le
        clear hb6 hb4 hbd
        clear hend hz hz1
        have e1 : ((2 * (m.n : Int)) == ((2 * m.n : Nat) : Int)) = true := by simp
        gi_wp2_with fail
        gi_region
        gi_wp2_with fail
        obtain ⟨W9, hW9⟩ : ∃ W9, W9 = (wr.setCell ⟨w.heap.size + 1, 0, none⟩ (.bool true)).drew := ⟨_, rfl⟩
        have h4' : W9.heap[w.heap.size + 1]? = some (.cells #[.bool true] 4 (0, 0)) := by rw [hW9]; exact set_of HB4r.out
        have hDne : D ≠ w.heap.size + 1 := by omega
        have hK' : W9.heap[D]? = some (.deferred (some [])) := by rw [hW9]; exact (Below.heap_setCell wr ⟨w.heap.size + 1, 0, none⟩ (.bool true) D hDne).trans HBd.out
        have hB9 : Below w.heap.size w W9 := by rw [hW9]; exact ext_drew ((ext_trans HBW.out HW.out).setCell (p := ⟨w.heap.size + 1, 0, none⟩) (by show w.heap.size ≤ w.heap.size + 1; omega) _)
        rw [← hW9]
        clear hW9
        refine ⟨by simp, .inl ⟨_, _, rfl, run_takeDeferred hK', ?_⟩⟩
        have hc5 := cell_kept (cell_of h4') (grownBy_putObj' _ D (.deferred none)) (fun r e => by cases e; exact ⟨_, hK', rfl⟩)
        refine ⟨.bool true, ?_, rfl, hB9.trans (belowK_b (w := w) (Nat.le_refl _) _ D _ _ (by omega) hK' rfl rfl)⟩
        simp [results, Tryd.f28, go_sem, hc5]
      · have e9 : decide (z ≤ (m.nb : Int)) = true := by simp; omega
        have hz4 : z ≤ 4 := by omega
        have HZ := Lib.hid (And.intro hend (And.intro hz hz1))
        by_cases hneg : z < 0
        · have hU := buses_no (HM.out.ext HW.out) z (.inl hneg)
          have HU := Lib.hid hU
          have el : decide (z < 0) = true := by simpa using hneg
          clear hU hneg hend hz
          gi_wp2_with fail
          refine ⟨trivial, (callsIn_wide.2 HU.out).mono ?_⟩
          rintro e w9 ⟨rfl, rfl⟩
          gi_wp2_with fail
          gi_roundg (m.nb - z).toNat
          case measure => have := HZ.out; omega
          case rel => exact ⟨z + 1, by have := HZ.out; omega, by have := HZ.out; omega, by go_num, HW⟩
        by_cases htop : z = m.nb
        · have hU := buses_no (HM.out.ext HW.out) z (.inr (by omega))
          have HU := Lib.hid hU
          have el : decide (z < 0) = false := by simpa using hneg
          clear hU hneg hend hz
          have e8 : (z == (m.nb : Int)) = true := by simp [htop]
          clear htop
          gi_wp2_with fail
          refine ⟨trivial, (callsIn_wide.2 HU.out).mono ?_⟩
          rintro e w9 ⟨rfl, rfl⟩
          gi_wp2_with fail
          gi_roundg (m.nb - z).toNat
          case measure => have := HZ.out; omega
          case rel => exact ⟨z + 1, by have := HZ.out; omega, by have := HZ.out; omega, by go_num, HW⟩
        obtain ⟨i, rfl⟩ : ∃ i : Nat, z = i := ⟨z.toNat, by omega⟩
        have hU := buses_ok (HM.out.ext HW.out) i (by omega)
        have HU := Lib.hid hU
        have el : decide ((i : Int) < 0) = false := by simp
        have e8 : ((i : Int) == (m.nb : Int)) = false := by simp; omega
        have e7 : decide (i ≤ m.nb) = true := by simp; omega
        have e6 : (i == m.nb) = false := by simp; omega
        have hi4 : (i : Int) < 4 := by omega
        have hi4' : i < 4 := by omega
        clear hU hneg hend hz htop
        gi_wp2_with fail
        refine ⟨trivial, (callsIn_wide.2 HU.out).mono ?_⟩
        rintro e w9 ⟨rfl, hb9⟩
        have HW9 := Lib.hid (ext_trans HW.out hb9)
        have hrk9 := HRK.out.ext hb9
        obtain ⟨k0, k1⟩ := hrk9.sl
        rw [← HNB.out] at k1
        have kr := hrk9.rd i hi4'
        have ku := hrk9.wr i hi4'
        obtain ⟨hpl, hql⟩ := hrk9.lt
        have b3 := (HW9.out.block _ (lt_of HB3.out)).trans HB3.out
        have k3 := cell_of b3
        have s3 := lt_of b3
        clear hrk9 b3 hb9 HW
        gi_wp2_with fail
        gi_roundg (m.nb - i)
        case measure => have := HZ.out; omega
        case rel => exact ⟨(i : Int) + 1, by have := HZ.out; omega, by have := HZ.out; omega, by go_num, HW9⟩

  case stop =>
    rintro D cc pre W hD hpre ⟨rfl, hb⟩ hK
    exact absurd hpre hb

end Go.Proofs.YtkfnjpmigifomaaDoor
