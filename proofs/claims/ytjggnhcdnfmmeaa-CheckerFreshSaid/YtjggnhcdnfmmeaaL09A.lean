/- What this text holds: the law CheckerNil, walked. No condition. -/
import Derived.Test.YtjggnhcdnfmmeaaChkR
import Derived.RangeFuncBound
import Derived.RangeFuncCalls
import Derived.RangeFuncLeaves
import Derived.Shelf.Abstract
import Derived.Shelf.RegionOpen
import Derived.OwnWalkIn
import Derived.TacticsInMore
import Derived.LoopNIn
import Derived.LoopIn
namespace Go.Proofs.Ytjggnhcdnfmmeaa
open Go.RowKit Go.Shelf
attribute [local go_sem] Oper.semAt_some

theorem iseq2_nil (w : World) (f : Fn) (a b : Array Value) : (binOp .eql 45 (.func f a b) .nilFunc).run Try.prog w = .ok (.bool false) w := by
  kernel_rfl

theorem lt_of' {w : World} {b : Nat} {o : Obj} (h : w.heap[b]? = some o) : b < w.heap.size := (Array.getElem?_eq_some_iff.1 h).1

set_option maxRecDepth 100000 in
set_option maxHeartbeats 4000000 in
theorem checkernil (a g x y : Int) (w : World) : Calls Try.prog 4 #[.agg #[.int .i64 a, .int .i64 g, .int .i64 x, .int .i64 y]] w fun e w' => e = .returned (.bool true) ∧ Below w.heap.size w w' := by
  refine (callsIn_wide (n := 6)).1 ?_
  have hro : Fence.wide.round = none := rfl
  refine callsIn_of_wp_marks Try.func4 rfl trivial ?_ hro
  simp only [Try.ntmps4, List.size_toArray, List.length_cons, List.length_nil, Nat.reduceAdd, Nat.reduceSub, Array.replicate_succ, Array.replicate_zero, List.push_toArray, List.append_toArray, List.nil_append, List.cons_append]
  have HW := Lib.hid (Below.refl w.heap.size w)
  gi_wp2_with fail
  refine ⟨trivial, (callsIn_wide.2 (cask_nil x g _)).mono ?_⟩
  rintro e w1 ⟨rfl, hb⟩
  have HX1 : Hid (w1.heap[w.heap.size]? = some (.cells #[.int .i64 a, .int .i64 g, .int .i64 x, .int .i64 y] 35 (0, 0))) := Lib.hid ((hb.block _ (by simp)).trans (alNew rfl))
  have HB1 := Lib.hid (ext_trans (ext_alloc _ (Below.refl _ _)) hb)
  have hx1 := HX1.out
  have hl1 := lt_of hx1
  have c1 : w1.cell? ⟨w.heap.size, 1, none⟩ = some (.int .i64 g) := by simp [World.cell?, hx1]
  have c2 : w1.cell? ⟨w.heap.size, 2, none⟩ = some (.int .i64 x) := by simp [World.cell?, hx1]
  have c3 : w1.cell? ⟨w.heap.size, 3, none⟩ = some (.int .i64 y) := by simp [World.cell?, hx1]
  clear hb hx1 HW
  gi_wp2_with fail
  clear c1 c2 c3
  refine ⟨trivial, (callsIn_wide.2 (cbegin_nil g _)).mono ?_⟩
  rintro e w2 ⟨rfl, hb⟩
  have HX2 : Hid (w2.heap[w.heap.size]? = some (.cells #[.int .i64 a, .int .i64 g, .int .i64 x, .int .i64 y] 35 (0, 0))) := Lib.hid ((hb.block _ (lt_of HX1.out)).trans (HX1.out))
  have HB2 := Lib.hid (ext_trans HB1.out hb)
  have hx2 := HX2.out
  have hl2 := lt_of hx2
  have c1 : w2.cell? ⟨w.heap.size, 1, none⟩ = some (.int .i64 g) := by simp [World.cell?, hx2]
  have c2 : w2.cell? ⟨w.heap.size, 2, none⟩ = some (.int .i64 x) := by simp [World.cell?, hx2]
  have c3 : w2.cell? ⟨w.heap.size, 3, none⟩ = some (.int .i64 y) := by simp [World.cell?, hx2]
  clear hb hx2 HX1 HB1
  gi_wp2_with fail
  clear c1 c2 c3
  refine ⟨trivial, (callsIn_wide.2 (cwalked_nil x y _)).mono ?_⟩
  rintro e w3 ⟨rfl, hb⟩
  have HX3 : Hid (w3.heap[w.heap.size]? = some (.cells #[.int .i64 a, .int .i64 g, .int .i64 x, .int .i64 y] 35 (0, 0))) := Lib.hid ((hb.block _ (lt_of HX2.out)).trans (HX2.out))
  have HB3 := Lib.hid (ext_trans HB2.out hb)
  have hx3 := HX3.out
  have hl3 := lt_of hx3
  have c1 : w3.cell? ⟨w.heap.size, 1, none⟩ = some (.int .i64 g) := by simp [World.cell?, hx3]
  have c2 : w3.cell? ⟨w.heap.size, 2, none⟩ = some (.int .i64 x) := by simp [World.cell?, hx3]
  have c3 : w3.cell? ⟨w.heap.size, 3, none⟩ = some (.int .i64 y) := by simp [World.cell?, hx3]
  clear hb hx3 HX2 HB2
  gi_wp2_with fail
  clear c1 c2 c3
  refine ⟨trivial, (callsIn_wide.2 (cdrop_nil g _)).mono ?_⟩
  rintro e w4 ⟨rfl, hb⟩
  have HX4 : Hid (w4.heap[w.heap.size]? = some (.cells #[.int .i64 a, .int .i64 g, .int .i64 x, .int .i64 y] 35 (0, 0))) := Lib.hid ((hb.block _ (lt_of HX3.out)).trans (HX3.out))
  have HB4 := Lib.hid (ext_trans HB3.out hb)
  have hx4 := HX4.out
  have hl4 := lt_of hx4
  have c1 : w4.cell? ⟨w.heap.size, 1, none⟩ = some (.int .i64 g) := by simp [World.cell?, hx4]
  have c2 : w4.cell? ⟨w.heap.size, 2, none⟩ = some (.int .i64 x) := by simp [World.cell?, hx4]
  have c3 : w4.cell? ⟨w.heap.size, 3, none⟩ = some (.int .i64 y) := by simp [World.cell?, hx4]
  clear hb hx4 HX3 HB3
  gi_wp2_with fail
  clear c1 c2 c3
  refine ⟨trivial, (callsIn_wide.2 (cwalking_nil _)).mono ?_⟩
  rintro e w5 ⟨rfl, hb⟩
  have HN5 : Hid (w5.heap[w4.heap.size]? = some (.cells #[.int .i64 0] 3 (0, 0))) := Lib.hid ((hb.block _ (by simp)).trans (alNew rfl))
  have HB5 := Lib.hid (ext_trans HB4.out (ext_trans (ext_alloc _ (Below.refl _ _)) hb))
  have hl5 := lt_of HN5.out
  clear hb HX4 HB4
  gi_wp2_with fail
  refine ⟨trivial, (callsIn_wide.2 (callF_nil _)).mono ?_⟩
  rintro e w6 ⟨rfl, hF, hb⟩
  have HN6 : Hid (w6.heap[w4.heap.size]? = some (.cells #[.int .i64 0] 3 (0, 0))) := Lib.hid ((hb.block _ hl5).trans HN5.out)
  have HB6 := Lib.hid (ext_trans HB5.out hb)
  have HF := Lib.hid hF
  have hs6 := hb.size
  have hfl := hF.lt
  clear hb HN5 HB5 hF
  have hq := iseq2_nil
  gi_wp2_with fail
  clear hq
  have hl6 := lt_of HN6.out
  have hs4 : w.heap.size < w6.heap.size := by omega
  refine wpIn_rangeFunc_ownH hro (by omega) (gf := 47) (lb := #[.pointer (some ⟨w5.heap.size, 0, none⟩)]) rfl trivial (enters_of Try.func47 (by kernel_rfl) rfl)
    (facts_stops (6 - 1) (by omega) w5.heap.size (.slice none 0 0) [] w6 HF.out (by simp)) (fun h k => h.trans k) (fun W l o o' hl ho hc hw => ?kp) (Below.refl _ _) (fun _ => rfl)
    (fun _ W => W.heap[w4.heap.size]? = some (.cells #[.int .i64 0] 3 (0, 0)) ∧ Below w.heap.size w W)
    (fun _ _ _ => False)
    (OwnFrom.and (Own.from (fun s A B row hs hg hr => blk_held hs hg hr) _) (ownFrom_below (Nat.le_refl _) (by omega)))
    (fun _ _ _ _ _ hs _ _ => hs)
    ⟨HN6.out, HB6.out⟩
    (fun _ _ _ => True)
    (fun _ _ _ _ _ _ _ _ _ => trivial) ?assign ?body ?done ?stop
  case kp => exact ⟨World.putObj_heap_other (by omega), fun g hg => by cases hg⟩
  case body =>
    rintro l pre x a' W hl hr hI hA hlen
    exact absurd hlen (by simp)
  case stop =>
    rintro D cc pre W hD hpre hF hK
    exact absurd hF (fun h => h)
  case assign =>
    rintro l pre x W K hI hK
    gi_wp2
    exact hK _ _ ((KeepsOthers.refl _).from _) (KeepF.refl _ _ _) hI trivial
  case done =>
    rintro D ys W hD rfl ⟨hn, hB⟩ hK
    have kn := cell_of hn
    have ln := lt_of hn
    gi_wp2_with fail
    refine ⟨trivial, (callsIn_wide.2 (ccopy_nil _)).mono ?_⟩
    rintro e w7 ⟨rfl, hb⟩
    have hK7 := (hb.block _ (lt_of' hK)).trans hK
    have HB7 := Lib.hid (ext_trans hB hb)
    clear hb
    gi_wp2_with fail
    refine ⟨trivial, (callsIn_wide.2 (awake09 _)).mono ?_⟩
    rintro e w8 ⟨rfl, hb⟩
    have hK8 := (hb.block _ (lt_of' hK7)).trans hK7
    have HB8 := Lib.hid (ext_trans HB7.out hb)
    clear hb HB7
    gi_wp2_with fail
    refine ⟨by simp, .inl ⟨_, _, rfl, run_takeDeferred hK8, ?_⟩⟩
    refine ⟨.bool true, ?_, rfl, HB8.out.trans (belowK_b (w := w) (Nat.le_refl _) _ D _ _ (by omega) hK8 rfl rfl)⟩
    simp [results, Try.f4, go_sem]

end Go.Proofs.Ytjggnhcdnfmmeaa
