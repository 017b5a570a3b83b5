/- What this text holds: the iterator over a granule's lines, as a contract for all loop bodies. Condition: the table of limits holds what its initialiser lays. -/
import Derived.Test.YtnbdaffbmpbfjaaDoorPlaceB
import Derived.RangeFuncNested
import Derived.RangeFuncBound
import Derived.RangeFuncCalls
import Derived.RangeFuncLeaves
import Derived.Shelf.Abstract
import Derived.Shelf.RegionOpen
import Derived.OwnWalkIn
import Derived.TacticsInMore
import Derived.LoopNIn
import Derived.LoopIn
namespace Go.Proofs.YtnbdaffbmpbfjaaDoor
open Go.RowKit Go.Shelf
attribute [local go_sem] Oper.semAt_some

/-- A granule that the configuration has. -/
def has (c : Cfg) (g : Int) : Prop := c.ok ∧ 0 ≤ g ∧ g < c.gr
instance (c : Cfg) (g : Int) : Decidable (has c g) := by unfold has; infer_instance
/-- A line of a granule. -/
def Ln (c : Cfg) (g : Int) : Type := { x : Int // has c g ∧ (x = g * 2 ∨ x = g * 2 + 1) }
/-- All lines of a granule. -/
def lns (c : Cfg) (g : Int) : List (Ln c g) := if h : has c g then [⟨g * 2, h, .inl rfl⟩, ⟨g * 2 + 1, h, .inr rfl⟩] else []
/-- What a round keeps: the iterator's own two cells. -/
def KeepB (B : Nat) (W W' : World) : Prop := W'.heap[B]? = W.heap[B]? ∧ W'.heap[B + 1]? = W.heap[B + 1]?
theorem KeepB.trans {B : Nat} {a b c : World} (h : KeepB B a b) (k : KeepB B b c) : KeepB B a c := ⟨k.1.trans h.1, k.2.trans h.2⟩

theorem linesof_any (c : Cfg) (g : Int) (w : World) : Calls Tryd.prog 24 #[.agg #[.int .i64 c.co, .int .i64 c.gr, .int .i64 c.se, .int .i64 c.wa, .int .i64 c.de, .int .i64 c.en, .int .i64 c.ba], .int .i64 g] w fun e w' =>
    e = .returned (.func (.func 42) #[] #[.pointer (some ⟨w.heap.size, 0, none⟩), .pointer (some ⟨w.heap.size + 1, 0, none⟩)]) ∧ w' = (w.alloc (.cells #[.int .i64 c.co, .int .i64 c.gr, .int .i64 c.se, .int .i64 c.wa, .int .i64 c.de, .int .i64 c.en, .int .i64 c.ba] 23)).alloc (.cells #[.int .i64 g] 3) := by
  go_enter Tryd.func24, Tryd.ntmps24
  go_wp2
  go_ret
  exact ⟨rfl, rfl⟩

theorem cfg_cells {W : World} {B : Nat} {c : Cfg} {t : TypeId} {fr : Nat × Nat} (h : W.heap[B]? = some (.cells #[.int .i64 c.co, .int .i64 c.gr, .int .i64 c.se, .int .i64 c.wa, .int .i64 c.de, .int .i64 c.en, .int .i64 c.ba] t fr)) :
    W.cell? ⟨B, 0, none⟩ = some (.int .i64 c.co) ∧ W.cell? ⟨B, 1, none⟩ = some (.int .i64 c.gr) ∧ W.cell? ⟨B, 2, none⟩ = some (.int .i64 c.se) ∧ W.cell? ⟨B, 3, none⟩ = some (.int .i64 c.wa) ∧
    W.cell? ⟨B, 4, none⟩ = some (.int .i64 c.de) ∧ W.cell? ⟨B, 5, none⟩ = some (.int .i64 c.en) ∧ W.cell? ⟨B, 6, none⟩ = some (.int .i64 c.ba) := by
  simp [World.cell?, h]
theorem one_cell {W : World} {B : Nat} {v : Value} {t : TypeId} {fr : Nat × Nat} (h : W.heap[B]? = some (.cells #[v] t fr)) : W.cell? ⟨B, 0, none⟩ = some v := by
  simp [World.cell?, h]
theorem grown_of_below {W W' : World} (h : Below W.heap.size W W') : W.grownBy W' none := ⟨h.os, h.tape, h.output, h.size, fun k hk _ => h.block k hk⟩

set_option maxRecDepth 100000 in
set_option maxHeartbeats 2000000 in
theorem linesOf_stops (n : Nat) (hn : 2 ≤ n) (c : Cfg) (g : Int) (B : Nat) (w : World) (hL : Lims w) (hB : B + 1 < w.heap.size)
    (hc0 : w.heap[B]? = some (.cells #[.int .i64 c.co, .int .i64 c.gr, .int .i64 c.se, .int .i64 c.wa, .int .i64 c.de, .int .i64 c.en, .int .i64 c.ba] 23 (0, 0))) (hg0 : w.heap[B + 1]? = some (.cells #[.int .i64 g] 3 (0, 0))) :
    SeqStopsK Fence.wide n Tryd.prog 42 #[.pointer (some ⟨B, 0, none⟩), .pointer (some ⟨B + 1, 0, none⟩)] (fun x : Ln c g => #[Value.int .i64 x.1]) (KeepB B) (fun ys => ys = lns c g) (fun pre => pre <+: lns c g) 2 w := fun l J Jx W hW hJ _ hY h0 => by
  have hLW : Lims W := hL.ext hW
  have hWc : W.heap[B]? = some (.cells #[.int .i64 c.co, .int .i64 c.gr, .int .i64 c.se, .int .i64 c.wa, .int .i64 c.de, .int .i64 c.en, .int .i64 c.ba] 23 (0, 0)) := (hW.block _ (by omega)).trans hc0
  have hWg : W.heap[B + 1]? = some (.cells #[.int .i64 g] 3 (0, 0)) := (hW.block _ (by omega)).trans hg0
  have hBW : B + 1 < W.heap.size := Nat.lt_of_lt_of_le hB hW.size
  refine callsIn_of_wp Tryd.func42 rfl trivial ?_ rfl
  simp only [Tryd.ntmps42, List.size_toArray, List.length_cons, List.length_nil, Nat.reduceAdd, Nat.reduceSub, Array.replicate_succ, Array.replicate_zero, List.push_toArray, List.append_toArray, List.nil_append, List.cons_append]
  by_cases h : has c g
  · have hch := chk_ok h.1
    have hgr := h.1.2.1.2
    obtain ⟨x1, hx1⟩ : ∃ x : Ln c g, x.1 = g * 2 := ⟨⟨g * 2, h, .inl rfl⟩, rfl⟩
    obtain ⟨x2, hx2⟩ : ∃ x : Ln c g, x.1 = g * 2 + 1 := ⟨⟨g * 2 + 1, h, .inr rfl⟩, rfl⟩
    have hl : lns c g = [x1, x2] := by
      unfold lns
      rw [dif_pos h]
      exact congr (congrArg _ (Subtype.ext hx1.symm)) (congrArg (· :: []) (Subtype.ext hx2.symm))
    obtain ⟨h1, h2, h3⟩ := h
    have HL := Lib.hid hl
    clear hl h1
    obtain ⟨k0, k1, k2, k3, k4, k5, k6⟩ := cfg_cells hWc
    have kg := one_cell hWg
    have hBB : B < W.heap.size := by omega
    have hn1 : 1 ≤ n := by omega
    have hn2 : 1 ≤ n - 1 := by omega
    gi_wp2_with (refine ⟨trivial, ?_⟩; gi_at_call 14; refine (callsIn_wide.2 (check_any c _ hLW)).mono ?_; rintro e W1 ⟨rfl, hb1⟩; obtain ⟨hc1, hf1⟩ := bcell hb1)
    gi_loopw [18] (fun p wr => ∃ k : Nat, k ≤ 2 ∧ p = .int .i64 k ∧ J ((lns c g).take k) wr ∧ KeepB B W wr) (fun p _ => 2 - (intOf p).toNat)
    case atStart => exact ⟨0, by omega, rfl, hJ [] W W1 none h0 (grown_of_below hb1) (fun r e => by cases e), hb1.block _ (by omega), hb1.block _ (by omega)⟩
    case round =>
      obtain ⟨k, hk, rfl, hJs, hkp⟩ := hrel
      have kgw := one_cell (hkp.2.trans hWg)
      have hkk : k = 0 ∨ k = 1 ∨ k = 2 := by omega
      rcases hkk with rfl | rfl | rfl
      · have hJ0 : J [] wr := hJs
        obtain ⟨fn, tmps, assign, body, hy, hR⟩ := hY [] x1 wr hJ0 (by simp)
        rw [hx1] at hy
        gi_wp2
        refine hR.mono ?_
        rintro e W3 (⟨rfl, hJ3, hk3⟩ | ⟨rfl, hJx3⟩)
        · gi_wp2
          go_roundw
          case rel => exact ⟨1, by omega, by simp, by rw [HL.out]; exact hJ3, hkp.trans hk3⟩
          case measure => simp [intOf]
        · gi_wp2
          refine bodyPost_ret (results_none rfl _ _ _) rfl ?_
          exact ⟨⟨_, rfl⟩, .inr ⟨[x1], by rw [HL.out]; exact ⟨[x2], rfl⟩, hJx3⟩⟩
      · have hJ1 : J [x1] wr := by rw [HL.out] at hJs; exact hJs
        obtain ⟨fn, tmps, assign, body, hy, hR⟩ := hY [x1] x2 wr hJ1 (by simp)
        rw [hx2] at hy
        gi_wp2
        refine hR.mono ?_
        rintro e W3 (⟨rfl, hJ3, hk3⟩ | ⟨rfl, hJx3⟩)
        · gi_wp2
          go_roundw
          case rel => exact ⟨2, by omega, by simp, by rw [HL.out]; exact hJ3, hkp.trans hk3⟩
          case measure => simp [intOf]
        · gi_wp2
          refine bodyPost_ret (results_none rfl _ _ _) rfl ?_
          exact ⟨⟨_, rfl⟩, .inr ⟨[x1, x2], by rw [HL.out]; exact ⟨[], rfl⟩, hJx3⟩⟩
      · have hJ2 : J (lns c g) wr := by rw [HL.out] at hJs ⊢; exact hJs
        gi_wp2
        go_end0
        exact ⟨⟨_, rfl⟩, .inl ⟨_, rfl, hJ2⟩⟩
  · have hl : lns c g = [] := by unfold lns; rw [dif_neg h]
    have HL := Lib.hid hl
    clear hl
    obtain ⟨k0, k1, k2, k3, k4, k5, k6⟩ := cfg_cells hWc
    have kg := one_cell hWg
    have hBB : B < W.heap.size := by omega
    have hn1 : 1 ≤ n := by omega
    by_cases hok : c.ok
    · have hch := chk_ok hok
      by_cases hg : g < 0
      · clear hok h
        gi_wp2_with (refine ⟨trivial, ?_⟩; gi_at_call 14; refine (callsIn_wide.2 (check_any c _ hLW)).mono ?_; rintro e W1 ⟨rfl, hb1⟩; obtain ⟨hc1, hf1⟩ := bcell hb1)
        refine bodyPost_ret (results_none rfl _ _ _) rfl ?_
        exact ⟨⟨_, rfl⟩, .inl ⟨_, rfl, by rw [HL.out]; exact hJ [] W W1 none h0 (grown_of_below hb1) (fun r e => by cases e)⟩⟩
      · have hg2 : c.gr ≤ g := by
          by_cases hx : c.gr ≤ g
          · exact hx
          · exact absurd ⟨hok, by omega, by omega⟩ h
        clear hok h
        gi_wp2_with (refine ⟨trivial, ?_⟩; gi_at_call 14; refine (callsIn_wide.2 (check_any c _ hLW)).mono ?_; rintro e W1 ⟨rfl, hb1⟩; obtain ⟨hc1, hf1⟩ := bcell hb1)
        refine bodyPost_ret (results_none rfl _ _ _) rfl ?_
        exact ⟨⟨_, rfl⟩, .inl ⟨_, rfl, by rw [HL.out]; exact hJ [] W W1 none h0 (grown_of_below hb1) (fun r e => by cases e)⟩⟩
    · have hch := chk_no hok
      clear hok h
      gi_wp2_with (refine ⟨trivial, ?_⟩; gi_at_call 14; refine (callsIn_wide.2 (check_any c _ hLW)).mono ?_; rintro e W1 ⟨rfl, hb1⟩; obtain ⟨hc1, hf1⟩ := bcell hb1)
      refine bodyPost_ret (results_none rfl _ _ _) rfl ?_
      exact ⟨⟨_, rfl⟩, .inl ⟨_, rfl, by rw [HL.out]; exact hJ [] W W1 none h0 (grown_of_below hb1) (fun r e => by cases e)⟩⟩

/-- A block of cells outlives the turn of what is no cells. -/
theorem blk_kept {W W' : World} {row : Option Nat} {b : Nat} {cs : Array Value} {t : TypeId} {fr : Nat × Nat} (h : W.heap[b]? = some (.cells cs t fr)) (hg : W.grownBy W' row)
    (hr : ∀ r, row = some r → ∃ o : Obj, W.heap[r]? = some o ∧ o.isCells = false) : W'.heap[b]? = some (.cells cs t fr) := by
  rw [hg.block b (Array.getElem?_eq_some_iff.1 h).1 (fun e => ?_)]
  · exact h
  · obtain ⟨o, ho, hc⟩ := hr b e.symm
    rw [h] at ho
    obtain rfl := Option.some.inj ho
    simp [Obj.isCells] at hc

end Go.Proofs.YtnbdaffbmpbfjaaDoor
