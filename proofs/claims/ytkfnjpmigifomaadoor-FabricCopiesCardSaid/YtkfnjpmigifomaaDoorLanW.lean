/- What this text holds: what is gone through is a list: Notes of the package of statements. No condition. -/
import Derived.Test.YtkfnjpmigifomaaDoorLanV
import Derived.ChangeKeysEq
namespace Go.Proofs.YtkfnjpmigifomaaDoor
open Go.RowKit Go.Shelf
attribute [local go_sem] Oper.semAt_some

theorem eqLine (w : World) (a b c d : Int) : (Op.equalIn 9999 26 (.agg #[.int .i64 a, .int .i64 b]) (.agg #[.int .i64 c, .int .i64 d])).run Tryd.prog w = .ok (decide (a = c ∧ b = d)) w := by
  obtain ⟨i0, hi, hz0, hz1, hz2⟩ := info_parts info_int
  have hc : Tryd.prog.cellsOf 3 = 1 := by kernel_rfl
  rw [run_equalIn_array (P := Tryd.prog) w 9998 #[.int .i64 a, .int .i64 b] #[.int .i64 c, .int .i64 d] Tryd.underlying26 hi, hc]
  have hr : List.range 2 = [0, 1] := rfl
  rw [hr]
  simp only [Op.eqItems]
  go_simp
  by_cases h1 : a = c <;> by_cases h2 : b = d <;> simp [h1, h2]
theorem eqN (w : World) (x y : Nt) : (binOp .eql 74 x.out y.out).run Tryd.prog w = .ok (.bool (decide (x = y))) w := by
  obtain ⟨a1, a2, a3, a4, a5, a6, a7, a8, a9⟩ := x
  obtain ⟨b1, b2, b3, b4, b5, b6, b7, b8, b9⟩ := y
  have h := fun w => eqLine w a6 a7 b6 b7
  go_simp
  by_cases h1 : a1 = b1
  case neg => simp [h1]
  by_cases h2 : a2 = b2
  case neg => simp [h1, h2]
  by_cases h3 : a3 = b3
  case neg => simp [h1, h2, h3]
  by_cases h4 : a4 = b4
  case neg => simp [h1, h2, h3, h4]
  by_cases h5 : a5 = b5
  case neg => simp [h1, h2, h3, h4, h5]
  by_cases h6 : a6 = b6 <;> by_cases h7 : a7 = b7 <;> by_cases h8 : a8 = b8 <;> by_cases h9 : a9 = b9 <;> simp [h1, h2, h3, h4, h5, h6, h7, h8, h9]
theorem neqN (w : World) (x y : Nt) : (binOp .neq 74 x.out y.out).run Tryd.prog w = .ok (.bool (!decide (x = y))) w := by
  obtain ⟨a1, a2, a3, a4, a5, a6, a7, a8, a9⟩ := x
  obtain ⟨b1, b2, b3, b4, b5, b6, b7, b8, b9⟩ := y
  have h := fun w => eqLine w a6 a7 b6 b7
  go_simp
  by_cases h1 : a1 = b1
  case neg => simp [h1]
  by_cases h2 : a2 = b2
  case neg => simp [h1, h2]
  by_cases h3 : a3 = b3
  case neg => simp [h1, h2, h3]
  by_cases h4 : a4 = b4
  case neg => simp [h1, h2, h3, h4]
  by_cases h5 : a5 = b5
  case neg => simp [h1, h2, h3, h4, h5]
  by_cases h6 : a6 = b6 <;> by_cases h7 : a7 = b7 <;> by_cases h8 : a8 = b8 <;> by_cases h9 : a9 = b9 <;> simp [h1, h2, h3, h4, h5, h6, h7, h8, h9]
theorem nseq_nil (w : World) (f : Fn) (a b : Array Value) : (binOp .eql 78 (.func f a b) .nilFunc).run Tryd.prog w = .ok (.bool false) w := by
  have h : ∀ d : Nat, (Op.equalIn (d + 1) 78 (.func f a b) .nilFunc).run Tryd.prog w = .ok false w := fun d => by
    simp [Op.equalIn, run_underlying Tryd.underlying78]
  simp only [binOp]
  simp [Op.equal, Op.maxDepth, h 9999]

theorem pre_next {xs pre : List Nt} (h : pre <+: xs) (hl : pre.length < xs.length) : pre ++ [atN xs pre.length] <+: xs := by
  have e := List.prefix_iff_eq_take.1 h
  have : xs.take (pre.length + 1) = pre ++ [atN xs pre.length] := by
    rw [List.take_succ_eq_append_getElem hl, ← e]
    simp [atN, hl]
  rw [← this]
  exact List.take_prefix _ _
theorem pre_only {xs pre : List Nt} {x : Nt} (h : pre ++ [x] <+: xs) : x = atN xs pre.length := by
  obtain ⟨t, rfl⟩ := h
  simp [atN]

set_option maxRecDepth 100000 in
set_option maxHeartbeats 4000000 in
theorem notes_yes (b : Nat) (v : Value) (xs : List Nt) (A : Option Addr) (cap : Nat) (w : World) (hN : NV w b v xs) (hA : SlN w A xs) (hx : xs.length ≤ 1000) :
    Calls Tryd.prog 42 #[.func (.func 111) #[] #[.pointer (some ⟨b, 0, none⟩)], .slice A xs.length cap] w fun e w' => e = .returned (.bool true) ∧ Below w.heap.size w w' := by
  have HN := Lib.hid hN
  have HA := Lib.hid hA
  clear hN hA
  refine (callsIn_wide (n := 6)).1 ?_
  have hro : Fence.wide.round = none := rfl
  refine callsIn_of_wp_marks Tryd.func42 rfl trivial ?_ hro
  simp only [Tryd.ntmps42, List.size_toArray, List.length_cons, List.length_nil, Nat.reduceAdd, Nat.reduceSub, Array.replicate_succ, Array.replicate_zero, List.push_toArray, List.append_toArray, List.nil_append, List.cons_append]
  have hq := nseq_nil
  gi_wp2_with fail
  obtain ⟨W0, hW0⟩ : ∃ W0, W0 = ((w.alloc (.cells #[.slice A xs.length cap] 69)).alloc (.cells #[.bool false] 4)).alloc (.cells #[.int .i64 0] 3) := ⟨_, rfl⟩
  rw [← hW0]
  have f0 : W0.heap[w.heap.size]? = some (.cells #[.slice A xs.length cap] 69 (0, 0)) := by rw [hW0]; exact alOld (alOld (alNew rfl))
  have f1 : W0.heap[w.heap.size + 1]? = some (.cells #[.bool false] 4 (0, 0)) := by rw [hW0]; exact alOld (alNew (by simp))
  have f2 : W0.heap[w.heap.size + 1 + 1]? = some (.cells #[.int .i64 0] 3 (0, 0)) := by rw [hW0]; exact alNew (by simp)
  have fs : W0.heap.size = w.heap.size + 3 := by rw [hW0]; simp
  have fB : Below w.heap.size w W0 := by rw [hW0]; exact (by repeat (with_reducible first | exact Below.refl _ _ | assumption | (refine ext_next (by assumption) ?_) | apply ext_alloc | apply ext_past | apply ext_drew | apply ext_drewN))
  have HN0 := HN.out.ext fB
  have hbl := HN.out.lt
  have hgl : ∀ g, v.ownBlock = some g → g < w.heap.size := fun g hg => (HN.out.own.lt g hg).2
  clear hW0
  refine wpIn_rangeFunc_ownH hro (by omega) (gf := 111) (lb := #[.pointer (some ⟨b, 0, none⟩)]) rfl trivial (enters_of Tryd.func111 (by kernel_rfl) rfl)
    (valuesN_stops (6 - 1) (by omega) b v xs W0 HN0 hx) (fun h k => h.trans k) (fun W l o o' hl ho hc hw => ?kp) (Below.refl _ _) (fun _ => rfl)
    (fun pre W => (W.heap[w.heap.size]? = some (.cells #[.slice A xs.length cap] 69 (0, 0)) ∧ W.heap[w.heap.size + 1]? = some (.cells #[.bool false] 4 (0, 0)) ∧ W.heap[w.heap.size + 1 + 1]? = some (.cells #[.int .i64 pre.length] 3 (0, 0)) ∧ Hid (pre <+: xs)) ∧ Below w.heap.size w W)
    (fun cc pre _ => cc = .ret ∧ ¬ pre <+: xs)
    (OwnFrom.and (Own.from (fun s A B row hs hg hr => ⟨blk_held hs.1 hg hr, blk_held hs.2.1 hg hr, blk_held hs.2.2.1 hg hr, hs.2.2.2⟩) _) (ownFrom_below (Nat.le_refl _) (by omega)))
    (fun _ _ _ _ _ hs _ _ => hs)
    ⟨⟨f0, f1, f2, Lib.hid (List.nil_prefix)⟩, fB⟩
    (fun x a' W => ∃ Bx, w.heap.size + 1 + 1 < Bx ∧ BxN W Bx x ∧ a' = { tmps := #[.func (.func 111) #[] #[.pointer (some ⟨b, 0, none⟩)], .slice A xs.length cap, undef, .pointer (some ⟨w.heap.size, 0, none⟩), .pointer (some ⟨w.heap.size + 1, 0, none⟩), .pointer (some ⟨w.heap.size + 1 + 1, 0, none⟩), .pointer (some ⟨Bx, 0, none⟩), .func (.func 111) #[] #[.pointer (some ⟨b, 0, none⟩)], .bool false, .func (.func 111) #[] #[.pointer (some ⟨b, 0, none⟩)], x.out, undef, undef, undef, undef, undef, undef, undef, undef, undef, undef, undef, undef, undef, undef, undef, undef, undef, undef], defers := [] })
    (fun x a' _ W W' row hs hg hr => by
      obtain ⟨Bx, h1, h2, h3⟩ := hs
      exact ⟨Bx, h1, blk_held h2 hg (fun r e => (hr r e).2), h3⟩) ?assign ?body ?done ?stop
  case kp => exact ⟨World.putObj_heap_other (by omega), fun g hg => World.putObj_heap_other (by have := hgl g hg; omega)⟩
  case assign =>
    rintro l pre x W K ⟨⟨b0, b1, b2, hp⟩, hB⟩ hK
    gi_wp2
    have hs := lt_of b2
    have h9 : ∀ X, Below W.heap.size W (W.alloc X) := fun X => (Below.refl _ W).alloc (Nat.le_refl _) X
    exact hK _ _ ((KeepsOthers.alloc _ _).from _) ⟨(h9 _).block _ (by omega), fun g hg => (h9 _).block _ (by have := hgl g hg; omega)⟩ ⟨⟨alOld b0, alOld b1, alOld b2, hp⟩, hB.alloc (by omega) _⟩ ⟨W.heap.size, hs, alNew rfl, rfl⟩
  case body =>
    rintro l pre x a' W hl hr ⟨⟨b0, b1, b2, hp⟩, hB⟩ ⟨Bx, hBx, bX, rfl⟩ hlen
    have kl := cell_of b0
    have kr := cell_of b1
    have kn := cell_of b2
    have fr := free_of b1
    have fn := free_of b2
    have s2 := lt_of b2
    have s1 := lt_of b1
    have s0 := lt_of b0
    obtain ⟨p0, p1, p2, p3, p4, p5, p6, p7, p8⟩ := bX.cell
    have hXl := bX.lt
    obtain ⟨bb, off, rfl, hbb, hcs⟩ := HA.out (by omega)
    have hbB : bb < W.heap.size := Nat.lt_of_lt_of_le hbb hB.size
    have cx : ∀ jj u, (atN xs pre.length).cells[jj]? = some u → W.cell? ⟨bb, off + pre.length * 9 + jj, none⟩ = some u := fun jj u hu => (hB.cell (p := ⟨bb, off + pre.length * 9 + jj, none⟩) hbb).trans (hcs _ hlen jj u hu)
    have x0 : W.cell? ⟨bb, off + pre.length * 9, none⟩ = _ := cx 0 _ rfl
    have x1 := cx 1 _ rfl
    have x2 := cx 2 _ rfl
    have x3 := cx 3 _ rfl
    have x4 := cx 4 _ rfl
    have x5 := cx 5 _ rfl
    have x6 := cx 6 _ rfl
    have x7 := cx 7 _ rfl
    have x8 := cx 8 _ rfl
    have eg : decide (xs.length ≤ pre.length) = false := by simp; omega
    have HCS := Lib.hid hcs
    have HAt : Hid (xs.take (pre.length + 1) = xs.take pre.length ++ [atN xs pre.length]) := Lib.hid (by rw [List.take_succ_eq_append_getElem hlen]; simp [atN, hlen])
    clear cx hcs hq
    by_cases hxq : x = atN xs pre.length
    · subst hxq
      have hq : ∀ wx, (binOp .neq 74 (atN xs pre.length).out (atN xs pre.length).out).run Tryd.prog wx = .ok (.bool false) wx := fun wx => by rw [neqN]; simp
      gi_wp2_with fail
      refine region_past_round (by kernel_rfl) (by kernel_rfl) (by kernel_rfl) ?_; (repeat (gi_big_quiet_step (fail))); refine wpQuietIn_nil ?_; rintro _ ⟨p, rfl⟩
      gi_wp2_with fail
      have hpb := p.below
      have oth : ∀ k, k < W.heap.size → k ≠ w.heap.size + 1 + 1 → (p.val.setCell ⟨w.heap.size + 1 + 1, 0, none⟩ (.int .i64 (pre.length + 1))).heap[k]? = W.heap[k]? := fun k h1 h2 => (Below.heap_setCell p.val _ _ k (by simpa using h2)).trans (hpb.block k h1)
      have own := set_of ((hpb.block _ s2).trans b2) (u := .int .i64 (pre.length + 1))
      refine ⟨((KeepsOthers.of_grownBy (grown_of hpb) (fun j o e => by cases e)).trans (KeepsOthers.setCell _ _ _)).from _, ⟨oth _ (by omega) (by omega), fun g hg => oth _ (by have := hgl g hg; omega) (by have := hgl g hg; omega)⟩,
        ⟨(oth _ s0 (by omega)).trans b0, (oth _ s1 (by omega)).trans b1, by simpa using own, Lib.hid (pre_next hp.out hlen)⟩, (hB.trans (hpb.mono hB.size)).setCell (p := ⟨w.heap.size + 1 + 1, 0, none⟩) (by simp; omega) _⟩
    · have hq : ∀ wx, (binOp .neq 74 (atN xs pre.length).out x.out).run Tryd.prog wx = .ok (.bool true) wx := fun wx => by rw [neqN]; simp; exact fun h => hxq h.symm
      gi_wp2_with fail
      refine region_past_round (by kernel_rfl) (by kernel_rfl) (by kernel_rfl) ?_; (repeat (gi_big_quiet_step (fail))); refine wpQuietIn_nil ?_; rintro _ ⟨p, rfl⟩
      gi_wp2_with fail
      exact ⟨((KeepsOthers.of_grownBy (grown_of p.below) (fun j o e => by cases e)).trans (KeepsOthers.setCell _ _ _)).from _, rfl, fun h => hxq (pre_only h)⟩
  case done =>
    rintro D ys W hD rfl ⟨⟨b0, b1, b2, hp⟩, hB⟩ hK
    have kl := cell_of b0
    have kr := cell_of b1
    have kn := cell_of b2
    have fr := free_of b1
    have s2 := lt_of b2
    have s1 := lt_of b1
    have s0 := lt_of b0
    gi_wp2_with fail
    have hK' := (KeepsOthers.setCell W ⟨w.heap.size + 1, 0, none⟩ (.bool true)).same D _ hK rfl
    refine ⟨by simp, .inl ⟨_, _, rfl, run_takeDeferred hK', ?_⟩⟩
    have hc5 := cell_kept (World.cell?_setCell_same' W ⟨w.heap.size + 1, 0, none⟩ (.bool true) (by rw [kr]; rfl)) (grownBy_putObj' _ D (.deferred none)) (fun r e => by cases e; exact ⟨_, hK', rfl⟩)
    refine ⟨.bool true, ?_, rfl, (hB.setCell (p := ⟨w.heap.size + 1, 0, none⟩) (by simp) _).trans (belowK_b (w := w) (Nat.le_refl _) _ D _ _ (by omega) hK' rfl rfl)⟩
    simp [results, Tryd.f42, go_sem, hc5]
  case stop =>
    rintro D cc pre W hD hpre ⟨rfl, hb⟩ hK
    exact absurd hpre hb

end Go.Proofs.YtkfnjpmigifomaaDoor
