/- What this text holds: a list of numbers that nobody else has, and what its iterator hands out; a granule's phase. No condition. -/
import Derived.Test.YtjggnhcdnfmmeaaMoA
import Derived.Test.YtjggnhcdnfmmeaaRfn
import Derived.RangeFuncBound
import Derived.RangeFuncCalls
import Derived.RangeFuncLeaves
import Derived.Shelf.Abstract
import Derived.Shelf.RegionOpen
import Derived.OwnWalkIn
import Derived.TacticsInMore
import Derived.LoopNIn
import Derived.RangeFuncNested
import Derived.Sort.LoopGhostIn
namespace Go.Proofs.Ytjggnhcdnfmmeaa
open Go.RowKit Go.Shelf
attribute [local go_sem] Oper.semAt_some

def KeepI (b : Nat) (v : Value) (w w' : World) : Prop := w'.heap[b]? = w.heap[b]? ∧ ∀ g, v.ownBlock = some g → w'.heap[g]? = w.heap[g]?
theorem KeepI.refl (b : Nat) (v : Value) (w : World) : KeepI b v w w := ⟨rfl, fun _ _ => rfl⟩
theorem KeepI.trans {b : Nat} {v : Value} {w w' w2 : World} (h : KeepI b v w w') (k : KeepI b v w' w2) : KeepI b v w w2 := ⟨k.1.trans h.1, fun g hg => (k.2 g hg).trans (h.2 g hg)⟩
def inAt (xs : List Int) (i : Nat) : Int := xs[i]?.getD 0
/-- An iterator's box: a slice of numbers that nobody else has. -/
structure IB (w : World) (b : Nat) (v : Value) (xs : List Int) : Prop where
  box : w.heap[b]? = some (.cells #[v] 64 (0, 0))
  own : w.ownsRow 0 3 1 v xs.length (xs.map (Value.int .i64))
section
variable {w w' : World} {b : Nat} {v : Value} {rs : List Int}
theorem IB.lt (h : IB w b v rs) : b < w.heap.size ∧ ∀ g, v.ownBlock = some g → g < w.heap.size := ⟨lt_of h.box, fun g hg => (h.own.lt g hg).2⟩
theorem IB.keep (h : IB w b v rs) (k : KeepI b v w w') : IB w' b v rs := by
  refine ⟨k.1.trans h.box, h.own.1, ?_⟩
  rcases h.own.2 with hn | ⟨g, cap, cur, rfl, hb, hgg, rest⟩
  · exact .inl hn
  · exact .inr ⟨g, cap, cur, rfl, hb, (k.2 g rfl).trans hgg, rest⟩
theorem IB.keepB {B : Nat} (h : IB w b v rs) (hb : Below B w w') (hB : w.heap.size ≤ B) : KeepI b v w w' :=
  ⟨hb.block b (Nat.lt_of_lt_of_le h.lt.1 hB), fun g hg => hb.block g (Nat.lt_of_lt_of_le (h.lt.2 g hg) hB)⟩
theorem IB.ext (h : IB w b v rs) (hb : Below w.heap.size w w') : IB w' b v rs := h.keep (h.keepB hb (Nat.le_refl _))
theorem IB.val (h : IB w b v rs) : ∃ A cap, v = .slice A rs.length cap ∧ ∀ a, A = some a → ∃ g, a = ⟨g, 0, none⟩ ∧ v.ownBlock = some g ∧ g < w.heap.size ∧ ∀ i, i < rs.length → w.cell? ⟨g, i, none⟩ = some (.int .i64 (inAt rs i)) := by
  rcases h.own.2 with ⟨hv, h0⟩ | ⟨g, cap, cur, hv, hb, hg, hc1, hc2, hc3, hc4⟩
  · exact ⟨none, 0, by rw [hv, h0], fun a ha => by cases ha⟩
  · refine ⟨_, cap, hv, fun a ha => ⟨g, (Option.some.inj ha).symm, by rw [hv]; rfl, (Array.getElem?_eq_some_iff.1 hg).1, fun i hi => ?_⟩⟩
    have h1 : (rs.map (Value.int .i64))[i]? = some (.int .i64 (inAt rs i)) := by simp [inAt, hi]
    rw [← hc4, List.getElem?_take, if_pos (by omega)] at h1
    unfold World.cell?
    rw [hg]
    simpa using h1
end
set_option maxRecDepth 100000 in
set_option maxHeartbeats 2000000 in
theorem valuesI_runs (n : Nat) (hn : 1 ≤ n) (b : Nat) (v : Value) (rs : List Int) (w : World) (h : IB w b v rs) (hx : rs.length ≤ 1000) :
    SeqRuns Fence.wide n Try.prog 63 #[.pointer (some ⟨b, 0, none⟩)] (fun x : Int => #[.int .i64 x]) (KeepI b v) (fun pre x => pre ++ [x] <+: rs) (fun ys => ys = rs) (fun pre => pre <+: rs) w := fun l J Jx W hW _ hJ _ hY h0 => by
  have HN := Lib.hid (h.ext hW)
  have hbW := HN.out.lt.1
  obtain ⟨A, cap, rfl, hA⟩ := HN.out.val
  have hbc : W.cell? ⟨b, 0, none⟩ = some (.slice A rs.length cap) := by simp [World.cell?, HN.out.box]
  have HA := Lib.hid hA
  clear h hA hW
  refine callsIn_of_wp Try.func63 rfl trivial ?_ rfl
  simp only [Try.ntmps63, List.size_toArray, List.length_cons, List.length_nil, Nat.reduceAdd, Nat.reduceSub, Array.replicate_succ, Array.replicate_zero, List.push_toArray, List.append_toArray, List.nil_append, List.cons_append]
  gi_wp2
  gi_loopw [7] (fun i wr => ∃ k : Nat, k ≤ rs.length ∧ i = .int .i64 k ∧ J (rs.take k) wr ∧ Hid (KeepI b (.slice A rs.length cap) W wr) ) (fun i _ => rs.length - (Go.RowKit.intOf i).toNat)
  case atStart => exact ⟨0, by omega, rfl, h0, Lib.hid (KeepI.refl _ _ _)⟩
  case round =>
    obtain ⟨k, hk, rfl, hJs, HK⟩ := hrel
    by_cases hlt : k < rs.length
    · cases A with
      | none =>
        exfalso
        rcases HN.out.own.2 with ⟨_, hz⟩ | ⟨g, c, cur, hv, _⟩
        · omega
        · cases hv
      | some a =>
        obtain ⟨g, rfl, hob, hgl, hcs⟩ := HA.out a rfl
        have x0 : wr.cell? ⟨g, k, none⟩ = _ := (World.cell?_of_block (a := ⟨g, k, none⟩) (HK.out.2 g hob)).trans (hcs k hlt)
        have HT : Hid (rs.take (k + 1) = rs.take k ++ [inAt rs k]) := Lib.hid (by rw [List.take_succ_eq_append_getElem hlt]; simp [inAt, hlt])
        have ek : decide ((k : Int) < (rs.length : Int)) = true := by simp; omega
        have hgw : g < wr.heap.size := by
          have := (HN.out.keep HK.out).lt.2 g hob
          exact this
        obtain ⟨fn, tmps, assign, body, hy, hR⟩ := hY _ (inAt rs k) _ hJs (by rw [← HT.out]; exact List.take_prefix _ _)
        have hJx := hR
        clear hR hob hcs
        gi_wp2
        refine hJx.mono ?_
        rintro e W3 ⟨_, ⟨rfl, hJ3, hk3⟩ | ⟨rfl, hJx3⟩⟩
        · gi_wp2
          go_roundw
          case rel => exact ⟨k + 1, by omega, by go_num, by rw [HT.out]; exact hJ3, Lib.hid (HK.out.trans hk3)⟩
          case measure => simp [Go.RowKit.intOf]; omega
        · gi_wp2
          refine bodyPost_ret (results_none rfl _ _ _) rfl ?_
          exact ⟨⟨_, rfl⟩, .inr ⟨_, by rw [← HT.out]; exact List.take_prefix _ _, hJx3⟩⟩
    · have ek : decide ((k : Int) < (rs.length : Int)) = false := by simp; omega
      have hkx : k = rs.length := by omega
      have HJs : Hid (J rs wr) := Lib.hid (by rw [hkx, List.take_length] at hJs; exact hJs)
      clear hkx hJs
      gi_wp2
      go_end0
      exact ⟨⟨_, rfl⟩, .inl ⟨_, rfl, HJs.out⟩⟩


theorem fld_ph (a0 a1 a2 a3 a4 a5 a7 : Int) (a6 a8 a9 a10 a11 : Bool) (w : World) : (Instr.field 114 (.agg #[.int .i64 a0, .int .i64 a1, .int .i64 a2, .int .i64 a3, .int .i64 a4, .int .i64 a5, .bool a6, .int .i64 a7, .bool a8, .bool a9, .bool a10, .bool a11]) 1).run Try.prog w = .ok (.int .i64 a7) w := by kernel_rfl
theorem fld_td (a0 a1 a2 a3 a4 a5 a7 : Int) (a6 a8 a9 a10 a11 : Bool) (w : World) : (Instr.field 114 (.agg #[.int .i64 a0, .int .i64 a1, .int .i64 a2, .int .i64 a3, .int .i64 a4, .int .i64 a5, .bool a6, .int .i64 a7, .bool a8, .bool a9, .bool a10, .bool a11]) 0).run Try.prog w = .ok (.agg #[.int .i64 a0, .int .i64 a1, .int .i64 a2, .int .i64 a3, .int .i64 a4, .int .i64 a5, .bool a6]) w := by kernel_rfl
theorem fld_ak (a0 a1 a2 a3 a4 a5 : Int) (a6 : Bool) (w : World) : (Instr.field 81 (.agg #[.int .i64 a0, .int .i64 a1, .int .i64 a2, .int .i64 a3, .int .i64 a4, .int .i64 a5, .bool a6]) 0).run Try.prog w = .ok (.agg #[.int .i64 a0, .int .i64 a1, .int .i64 a2, .int .i64 a3, .int .i64 a4]) w := by kernel_rfl
theorem fld_co (a0 a1 a2 a3 a4 : Int) (w : World) : (Instr.field 70 (.agg #[.int .i64 a0, .int .i64 a1, .int .i64 a2, .int .i64 a3, .int .i64 a4]) 0).run Try.prog w = .ok (.int .i64 a0) w := by kernel_rfl
set_option maxRecDepth 100000 in
theorem mphase_any {B p t g b M : Nat} {n : Int} {s : Ms} {w : World} (h : Mn w B p t g b n M s) (k : Int) (hk : (Lit.int .i64 k).wf = true) :
    Calls Try.prog 33 #[.pointer (some ⟨p, 0, none⟩), .int .i64 k] w fun e w' => e = .returned (.int .i64 (ruO (s.F k)).ph) ∧ w' = w := by
  obtain ⟨c0, c1, c2⟩ := h.cells
  have hl := h.mp.look hk
  have pl := h.lt.1
  clear h
  generalize ruO (s.F k) = r at hl ⊢
  unfold Ru.val at hl
  have hf := fld_ph r.a.co r.a.wo r.a.ca r.a.gr r.a.to r.th r.ph r.sc (r.w 0) (r.w 1) (r.w 2) (r.w 3)
  go_enter Try.func33, Try.ntmps33
  go_wp2_with fail
  go_ret
  exact ⟨rfl, rfl⟩

end Go.Proofs.Ytjggnhcdnfmmeaa
