/- What this text holds: a sequence of sequences of notes in memory, and what it hands out. No condition. -/
import Derived.Test.YtkfnjpmigifomaaDoorLanW
import Derived.Test.YtkfnjpmigifomaaDoorRfn
namespace Go.Proofs.YtkfnjpmigifomaaDoor
open Go.RowKit Go.Shelf
attribute [local go_sem] Oper.semAt_some

/-- A row of notes: the box of its iterator, its slice, its notes. -/
structure Rw where
  b : Nat
  v : Value
  xs : List Nt
/-- Its iterator. -/
def Rw.fn (r : Rw) : Value := .func (.func 111) #[] #[.pointer (some ⟨r.b, 0, none⟩)]
def Rw.zero : Rw := ⟨0, .slice none 0 0, []⟩
def rwAt (rs : List Rw) (i : Nat) : Rw := rs[i]?.getD Rw.zero
/-- The rows' iterator: a box of a slice of iterators that nobody else has. -/
structure RB (w : World) (b : Nat) (v : Value) (rs : List Rw) : Prop where
  box : w.heap[b]? = some (.cells #[v] 166 (0, 0))
  own : w.ownsRow 0 79 1 v rs.length (rs.map Rw.fn)
/-- All of it. -/
structure RV (w : World) (b : Nat) (v : Value) (rs : List Rw) : Prop where
  top : RB w b v rs
  row : ∀ r ∈ rs, NV w r.b r.v r.xs
section
variable {w w' : World} {b : Nat} {v : Value} {rs : List Rw}
theorem RB.lt (h : RB w b v rs) : b < w.heap.size ∧ ∀ g, v.ownBlock = some g → g < w.heap.size := ⟨lt_of h.box, fun g hg => (h.own.lt g hg).2⟩
theorem RB.keep (h : RB w b v rs) (k : KeepN b v w w') : RB w' b v rs := by
  refine ⟨k.1.trans h.box, h.own.1, ?_⟩
  rcases h.own.2 with hn | ⟨g, cap, cur, rfl, hb, hgg, rest⟩
  · exact .inl hn
  · exact .inr ⟨g, cap, cur, rfl, hb, (k.2 g rfl).trans hgg, rest⟩
theorem RB.keepB {B : Nat} (h : RB w b v rs) (hb : Below B w w') (hB : w.heap.size ≤ B) : KeepN b v w w' :=
  ⟨hb.block b (Nat.lt_of_lt_of_le h.lt.1 hB), fun g hg => hb.block g (Nat.lt_of_lt_of_le (h.lt.2 g hg) hB)⟩
theorem RB.ext (h : RB w b v rs) (hb : Below w.heap.size w w') : RB w' b v rs := h.keep (h.keepB hb (Nat.le_refl _))
theorem RV.ext (h : RV w b v rs) (hb : Below w.heap.size w w') : RV w' b v rs := ⟨h.top.ext hb, fun r hr => (h.row r hr).ext hb⟩
theorem RB.val (h : RB w b v rs) : ∃ A cap, v = .slice A rs.length cap ∧ ∀ a, A = some a → ∃ g, a = ⟨g, 0, none⟩ ∧ v.ownBlock = some g ∧ g < w.heap.size ∧ ∀ i, i < rs.length → w.cell? ⟨g, i, none⟩ = some (rwAt rs i).fn := by
  rcases h.own.2 with ⟨hv, h0⟩ | ⟨g, cap, cur, hv, hb, hg, hc1, hc2, hc3, hc4⟩
  · exact ⟨none, 0, by rw [hv, h0], fun a ha => by cases ha⟩
  · refine ⟨_, cap, hv, fun a ha => ⟨g, (Option.some.inj ha).symm, by rw [hv]; rfl, (Array.getElem?_eq_some_iff.1 hg).1, fun i hi => ?_⟩⟩
    have h1 : (rs.map Rw.fn)[i]? = some (rwAt rs i).fn := by simp [rwAt, hi]
    rw [← hc4, List.getElem?_take, if_pos (by omega)] at h1
    unfold World.cell?
    rw [hg]
    simpa using h1
end
set_option maxRecDepth 100000 in
set_option maxHeartbeats 2000000 in
theorem valuesS_runs (n : Nat) (hn : 1 ≤ n) (b : Nat) (v : Value) (rs : List Rw) (w : World) (h : RB w b v rs) (hx : rs.length ≤ 1000) :
    SeqRuns Fence.wide n Tryd.prog 104 #[.pointer (some ⟨b, 0, none⟩)] (fun x : Rw => #[x.fn]) (KeepN b v) (fun pre x => pre ++ [x] <+: rs) (fun ys => ys = rs) (fun pre => pre <+: rs) w := fun l J Jx W hW _ hJ _ hY h0 => by
  have HN := Lib.hid (h.ext hW)
  have hbW := HN.out.lt.1
  obtain ⟨A, cap, rfl, hA⟩ := HN.out.val
  have hbc : W.cell? ⟨b, 0, none⟩ = some (.slice A rs.length cap) := by simp [World.cell?, HN.out.box]
  have HA := Lib.hid hA
  clear h hA hW
  refine callsIn_of_wp Tryd.func104 rfl trivial ?_ rfl
  simp only [Tryd.ntmps104, List.size_toArray, List.length_cons, List.length_nil, Nat.reduceAdd, Nat.reduceSub, Array.replicate_succ, Array.replicate_zero, List.push_toArray, List.append_toArray, List.nil_append, List.cons_append]
  gi_wp2
  gi_loopw [7] (fun i wr => ∃ k : Nat, k ≤ rs.length ∧ i = .int .i64 k ∧ J (rs.take k) wr ∧ Hid (KeepN b (.slice A rs.length cap) W wr) ) (fun i _ => rs.length - (intOf i).toNat)
  case atStart => exact ⟨0, by omega, rfl, h0, Lib.hid (KeepN.refl _ _ _)⟩
  case round =>
    obtain ⟨k, hk, rfl, hJs, HK⟩ := hrel
    by_cases hlt : k < rs.length
    · cases A with
      | none =>
        exfalso
        rcases HN.out.own.2 with ⟨_, hz⟩ | ⟨g, c, cur, hv, _⟩
        · omega
        · cases hv
      | some a =>
        obtain ⟨g, rfl, hob, hgl, hcs⟩ := HA.out a rfl
        have x0 : wr.cell? ⟨g, k, none⟩ = _ := (World.cell?_of_block (a := ⟨g, k, none⟩) (HK.out.2 g hob)).trans (hcs k hlt)
        have HT : Hid (rs.take (k + 1) = rs.take k ++ [rwAt rs k]) := Lib.hid (by rw [List.take_succ_eq_append_getElem hlt]; simp [rwAt, hlt])
        have ek : decide ((k : Int) < (rs.length : Int)) = true := by simp; omega
        have hgw : g < wr.heap.size := by
          have := (HN.out.keep HK.out).lt.2 g hob
          exact this
        obtain ⟨fn, tmps, assign, body, hy, hR⟩ := hY _ (rwAt rs k) _ hJs (by rw [← HT.out]; exact List.take_prefix _ _)
        have hJx := hR
        clear hR hob hcs
        unfold Rw.fn at x0 hy
        gi_wp2
        refine hJx.mono ?_
        rintro e W3 ⟨_, ⟨rfl, hJ3, hk3⟩ | ⟨rfl, hJx3⟩⟩
        · gi_wp2
          go_roundw
          case rel => exact ⟨k + 1, by omega, by go_num, by rw [HT.out]; exact hJ3, Lib.hid (HK.out.trans hk3)⟩
          case measure => simp [intOf]; omega
        · gi_wp2
          refine bodyPost_ret (results_none rfl _ _ _) rfl ?_
          exact ⟨⟨_, rfl⟩, .inr ⟨_, by rw [← HT.out]; exact List.take_prefix _ _, hJx3⟩⟩
    · have ek : decide ((k : Int) < (rs.length : Int)) = false := by simp; omega
      have hkx : k = rs.length := by omega
      have HJs : Hid (J rs wr) := Lib.hid (by rw [hkx, List.take_length] at hJs; exact hJs)
      clear hkx hJs
      gi_wp2
      go_end0
      exact ⟨⟨_, rfl⟩, .inl ⟨_, rfl, HJs.out⟩⟩

set_option maxRecDepth 100000 in
set_option maxHeartbeats 2000000 in
theorem valuesN_runs (n : Nat) (hn : 1 ≤ n) (b : Nat) (v : Value) (xs : List Nt) (w : World) (h : NV w b v xs) (hx : xs.length ≤ 1000) :
    SeqRuns Fence.wide n Tryd.prog 111 #[.pointer (some ⟨b, 0, none⟩)] (fun x : Nt => #[x.out]) (KeepN b v) (fun pre x => pre ++ [x] <+: xs) (fun ys => ys = xs) (fun pre => pre <+: xs) w := fun l J Jx W hW _ hJ _ hY h0 => by
  have HN := Lib.hid (h.ext hW)
  have hbW := HN.out.lt
  obtain ⟨A, cap, rfl, hA⟩ := HN.out.val
  have hbc : W.cell? ⟨b, 0, none⟩ = some (.slice A xs.length cap) := by simp [World.cell?, HN.out.box]
  have HA := Lib.hid hA
  clear h hA hW
  refine callsIn_of_wp Tryd.func111 rfl trivial ?_ rfl
  simp only [Tryd.ntmps111, List.size_toArray, List.length_cons, List.length_nil, Nat.reduceAdd, Nat.reduceSub, Array.replicate_succ, Array.replicate_zero, List.push_toArray, List.append_toArray, List.nil_append, List.cons_append]
  gi_wp2
  gi_loopw [7] (fun i wr => ∃ k : Nat, k ≤ xs.length ∧ i = .int .i64 k ∧ J (xs.take k) wr ∧ Hid (KeepN b (.slice A xs.length cap) W wr) ) (fun i _ => xs.length - (intOf i).toNat)
  case atStart => exact ⟨0, by omega, rfl, h0, Lib.hid (KeepN.refl _ _ _)⟩
  case round =>
    obtain ⟨k, hk, rfl, hJs, HK⟩ := hrel
    by_cases hlt : k < xs.length
    · cases A with
      | none =>
        exfalso
        rcases HN.out.own.2 with ⟨_, hz⟩ | ⟨g, c, cur, hv, _⟩
        · omega
        · cases hv
      | some a =>
        obtain ⟨g, rfl, hob, hgl, hcs⟩ := HA.out a rfl
        have cx : ∀ jj u, (atN xs k).cells[jj]? = some u → wr.cell? ⟨g, k * 9 + jj, none⟩ = some u := fun jj u hu => (World.cell?_of_block (a := ⟨g, k * 9 + jj, none⟩) (HK.out.2 g hob)).trans (hcs k hlt jj u hu)
        have x0 : wr.cell? ⟨g, k * 9, none⟩ = _ := cx 0 _ rfl
        have x1 := cx 1 _ rfl
        have x2 := cx 2 _ rfl
        have x3 := cx 3 _ rfl
        have x4 := cx 4 _ rfl
        have x5 := cx 5 _ rfl
        have x6 := cx 6 _ rfl
        have x7 := cx 7 _ rfl
        have x8 := cx 8 _ rfl
        have HT : Hid (xs.take (k + 1) = xs.take k ++ [atN xs k]) := Lib.hid (by rw [List.take_succ_eq_append_getElem hlt]; simp [atN, hlt])
        have ek : decide ((k : Int) < (xs.length : Int)) = true := by simp; omega
        have HCS := Lib.hid hcs
        clear cx hcs hob
        have hJa : J (xs.take k) (wr.alloc (.cells #[.int .i64 (atN xs k).k, .int .i64 (atN xs k).c, .int .i64 (atN xs k).l, .int .i64 (atN xs k).w, .int .i64 (atN xs k).s, .int .i64 (atN xs k).a, .int .i64 (atN xs k).b, .bool (atN xs k).d, .int .i64 (atN xs k).n] 74)) :=
          hJ _ _ _ none hJs (World.grownBy_alloc _ _ none) (fun r e => by cases e)
        obtain ⟨fn, tmps, assign, body, hy, hR⟩ := hY _ (atN xs k) _ hJa (by rw [← HT.out]; exact List.take_prefix _ _)
        have hJx := hR
        clear hR
        gi_wp2
        refine hJx.mono ?_
        rintro e W3 ⟨_, ⟨rfl, hJ3, hk3⟩ | ⟨rfl, hJx3⟩⟩
        · gi_wp2
          have hka := (HN.out.keep HK.out).keepB ((Below.refl _ wr).alloc (Nat.le_refl _) (.cells #[.int .i64 (atN xs k).k, .int .i64 (atN xs k).c, .int .i64 (atN xs k).l, .int .i64 (atN xs k).w, .int .i64 (atN xs k).s, .int .i64 (atN xs k).a, .int .i64 (atN xs k).b, .bool (atN xs k).d, .int .i64 (atN xs k).n] 74)) (Nat.le_refl _)
          go_roundw
          case rel => exact ⟨k + 1, by omega, by go_num, by rw [HT.out]; exact hJ3, Lib.hid ((HK.out.trans hka).trans hk3)⟩
          case measure => simp [intOf]; omega
        · gi_wp2
          refine bodyPost_ret (results_none rfl _ _ _) rfl ?_
          exact ⟨⟨_, rfl⟩, .inr ⟨_, by rw [← HT.out]; exact List.take_prefix _ _, hJx3⟩⟩
    · have ek : decide ((k : Int) < (xs.length : Int)) = false := by simp; omega
      have hkx : k = xs.length := by omega
      have HJs : Hid (J xs wr) := Lib.hid (by rw [hkx, List.take_length] at hJs; exact hJs)
      clear hkx hJs
      gi_wp2
      go_end0
      exact ⟨⟨_, rfl⟩, .inl ⟨_, rfl, HJs.out⟩⟩

end Go.Proofs.YtkfnjpmigifomaaDoor
