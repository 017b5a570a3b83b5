/- What this text holds: what a core does by itself. No condition. -/
import Derived.Test.YtkobeajbiendlaaDoorCoreB
namespace Go.Proofs.YtkobeajbiendlaaDoor
open Go.RowKit

set_option maxRecDepth 100000 in
set_option maxHeartbeats 1000000 in
theorem kevent_any (p : Nat) (v : Value) (s : CoS) (x : Ins) (w : World) (h : Kc w p v s) : Calls Tryd.prog 48 #[.pointer (some ⟨p, 0, none⟩), .agg #[.int .i64 x.op, .int .i64 x.a, .int .i64 x.b, .int .i64 x.c]] w fun e w' => e = .returned (.agg #[.int .i64 s.no, .int .i64 s.a, .int .i64 x.op, .int .i64 s.wo, .int .i64 0, .int .i64 0, .int .i64 0]) ∧ Below w.heap.size w w' := by
  obtain ⟨_, _, _, _, c4, c5, _, c7, _⟩ := h.cells
  have hl := h.lt
  clear h
  go_enter Tryd.func48, Tryd.ntmps48
  go_wp2_with fail
  go_region
  all_goals
    go_wp2_with fail
    (try simp only [Exit.inBlock, Exit.then]); refine bodyPost_ret (by simp [results, Tryd.results48, go_sem]; try rfl) rfl ?_
    exact ⟨rfl, (by repeat (with_reducible first | exact Below.refl _ _ | assumption | (refine ext_next (by assumption) ?_) | apply ext_alloc | apply ext_past | apply ext_drew | apply ext_drewN))⟩

theorem ev_cells {W : World} {b : Nat} {x0 x1 x2 x3 x4 x5 x6 : Value} {t : TypeId} (h : W.heap[b]? = some (.cells #[x0, x1, x2, x3, x4, x5, x6] t (0, 0))) :
    W.cell? ⟨b, 0, none⟩ = some x0 ∧ W.cell? ⟨b, 1, none⟩ = some x1 ∧ W.cell? ⟨b, 2, none⟩ = some x2 ∧ W.cell? ⟨b, 3, none⟩ = some x3 ∧ W.cell? ⟨b, 4, none⟩ = some x4 ∧ W.cell? ⟨b, 5, none⟩ = some x5 ∧ W.cell? ⟨b, 6, none⟩ = some x6 ∧ (∀ i, W.frozen? ⟨b, i, none⟩ = false) ∧ b < W.heap.size := by
  refine ⟨?_, ?_, ?_, ?_, ?_, ?_, ?_, fun i => ?_, lt_of h⟩ <;> simp [World.cell?, World.frozen?, h]

/-- Seven stores. -/
def set7 (w : World) (b : Nat) (x0 x1 x2 x3 x4 x5 x6 : Value) : World := ((((((w.setCell ⟨b, 0, none⟩ x0).setCell ⟨b, 1, none⟩ x1).setCell ⟨b, 2, none⟩ x2).setCell ⟨b, 3, none⟩ x3).setCell ⟨b, 4, none⟩ x4).setCell ⟨b, 5, none⟩ x5).setCell ⟨b, 6, none⟩ x6
theorem set7_blk {w : World} {b : Nat} {y0 y1 y2 y3 y4 y5 y6 : Value} {t : TypeId} (x0 x1 x2 x3 x4 x5 x6 : Value) (h : w.heap[b]? = some (.cells #[y0, y1, y2, y3, y4, y5, y6] t (0, 0))) : (set7 w b x0 x1 x2 x3 x4 x5 x6).heap[b]? = some (.cells #[x0, x1, x2, x3, x4, x5, x6] t (0, 0)) := by
  have s0 := Joins.block_setCell (i := 0) h x0
  have s1 := Joins.block_setCell (i := 1) s0 x1
  have s2 := Joins.block_setCell (i := 2) s1 x2
  have s3 := Joins.block_setCell (i := 3) s2 x3
  have s4 := Joins.block_setCell (i := 4) s3 x4
  have s5 := Joins.block_setCell (i := 5) s4 x5
  have s6 := Joins.block_setCell (i := 6) s5 x6
  unfold set7
  simpa using s6
theorem sc_grown (w : World) (b i : Nat) (x : Value) : w.grownBy (w.setCell ⟨b, i, none⟩ x) (some b) := ⟨rfl, rfl, rfl, by simp, fun k _ hk => Below.heap_setCell _ _ _ _ (fun e => hk (by rw [e]))⟩
theorem gr_two {a b c : World} {r : Option Nat} (h : a.grownBy b r) (k : b.grownBy c r) : a.grownBy c r :=
  ⟨k.os.trans h.os, k.tape.trans h.tape, k.output.trans h.output, Nat.le_trans h.size k.size, fun q hq hn => (k.block q (Nat.lt_of_lt_of_le hq h.size) hn).trans (h.block q hq hn)⟩
theorem set7_grown (w : World) (b : Nat) (x0 x1 x2 x3 x4 x5 x6 : Value) : w.grownBy (set7 w b x0 x1 x2 x3 x4 x5 x6) (some b) :=
  gr_two (gr_two (gr_two (gr_two (gr_two (gr_two (sc_grown _ _ _ _) (sc_grown _ _ _ _)) (sc_grown _ _ _ _)) (sc_grown _ _ _ _)) (sc_grown _ _ _ _)) (sc_grown _ _ _ _)) (sc_grown _ _ _ _)

set_option maxRecDepth 100000 in
set_option maxHeartbeats 1000000 in
theorem klocal_end (p : Nat) (v : Value) (s : CoS) (w : World) (h : Kc w p v s) (he : endB s.ps s.a = true) : Calls Tryd.prog 19 #[.pointer (some ⟨p, 0, none⟩)] w fun e w' => e = .returned (.tuple #[.agg #[.int .i64 0, .int .i64 0, .int .i64 0, .int .i64 0, .int .i64 0, .int .i64 0, .int .i64 0], .bool false]) ∧ Below w.heap.size w w' := by
  have H := Lib.hid h
  have HE := Lib.hid he
  clear h he
  go_enter Tryd.func19, Tryd.ntmps19
  go_wp2_with fail
  refine (knext_end p v s _ (H.out.ext (ext_alloc _ (Below.refl _ _))) HE.out).mono ?_
  rintro e w1 ⟨rfl, hb⟩
  go_upto_if 14 with (fail)
  obtain ⟨W2, hW2⟩ : ∃ W2, W2 = w1.alloc (.cells #[.int .i64 0, .int .i64 0, .int .i64 0, .int .i64 0] 36) := ⟨_, rfl⟩
  have hbW : Below w1.heap.size w1 W2 := by rw [hW2]; exact ext_alloc _ (Below.refl _ _)
  have HB := Lib.hid (ext_trans (ext_alloc (.cells #[.int .i64 0, .int .i64 0, .int .i64 0, .int .i64 0, .int .i64 0, .int .i64 0, .int .i64 0] 42) (Below.refl _ w)) (ext_trans hb hbW))
  have hbx := (hbW.block w.heap.size (by have := hb.size; simp at this; omega)).trans ((hb.block w.heap.size (by simp)).trans (alNew rfl))
  have HBX := Lib.hid hbx
  obtain ⟨b0, b1, b2, b3, b4, b5, b6, bf, bl⟩ := ev_cells hbx
  rw [← hW2]
  clear hb hbx hbW hW2
  go_wp2_with fail
  obtain ⟨W3, hW3⟩ : ∃ W3, W3 = set7 W2 w.heap.size (.int .i64 0) (.int .i64 0) (.int .i64 0) (.int .i64 0) (.int .i64 0) (.int .i64 0) (.int .i64 0) := ⟨_, rfl⟩
  have hbk := set7_blk (.int .i64 0) (.int .i64 0) (.int .i64 0) (.int .i64 0) (.int .i64 0) (.int .i64 0) (.int .i64 0) HBX.out
  have hgr := set7_grown W2 w.heap.size (.int .i64 0) (.int .i64 0) (.int .i64 0) (.int .i64 0) (.int .i64 0) (.int .i64 0) (.int .i64 0)
  rw [← hW3] at hbk hgr
  unfold set7 at hW3
  rw [← hW3]
  obtain ⟨d0, d1, d2, d3, d4, d5, d6, df, dl⟩ := ev_cells hbk
  clear b0 b1 b2 b3 b4 b5 b6 bf bl
  (try simp only [Exit.inBlock, Exit.then]); refine bodyPost_ret (by simp [results, Tryd.results19, go_sem, d0, d1, d2, d3, d4, d5, d6]; try rfl) rfl ?_
  exact ⟨rfl, HB.out.grown hgr HB.out.size (fun k e => by cases e; exact Nat.le_refl _)⟩

end Go.Proofs.YtkobeajbiendlaaDoor
