/- What this text holds: what a memory's All goes through, as a contract for all loop bodies. Condition: the table of limits holds what its initialiser lays. -/
import Derived.Test.YtkfnjpmigifomaaDoorBankH
import Derived.Test.YtkfnjpmigifomaaDoorRst
namespace Go.Proofs.YtkfnjpmigifomaaDoor
open Go.RowKit Go.Shelf
attribute [local go_sem] Oper.semAt_some

/-- What All goes through: a box of a slice that nobody else has. -/
structure AL (w : World) (b g n : Nat) (wd : Nat → Int) : Prop where
  box : w.heap[b]? = some (.cells #[.slice (some ⟨g, 0, none⟩) n n] 103 (0, 0))
  own : w.ownsRow 0 26 2 (.slice (some ⟨g, 0, none⟩) n n) n (tab (n * 2) fun k => .int .i64 (wd k))
def KeepL (b g : Nat) (W W' : World) : Prop := W'.heap[b]? = W.heap[b]? ∧ W'.heap[g]? = W.heap[g]?
theorem KeepL.refl (b g : Nat) (W : World) : KeepL b g W W := ⟨rfl, rfl⟩
theorem KeepL.trans {b g : Nat} {x y z : World} (h : KeepL b g x y) (k : KeepL b g y z) : KeepL b g x z := ⟨k.1.trans h.1, k.2.trans h.2⟩
theorem AL.lt {w : World} {b g n : Nat} {wd : Nat → Int} (h : AL w b g n wd) : b < w.heap.size ∧ g < w.heap.size := ⟨lt_of h.box, lt_own h.own rfl⟩
theorem AL.keep {w w' : World} {b g n : Nat} {wd : Nat → Int} (h : AL w b g n wd) (k : KeepL b g w w') : AL w' b g n wd :=
  ⟨k.1.trans h.box, row_keep h.own fun j hj => by obtain rfl := Option.some.inj hj; exact k.2⟩
theorem AL.keepB {w w' : World} {b g n : Nat} {wd : Nat → Int} (h : AL w b g n wd) {B : Nat} (hb : Below B w w') (hB : w.heap.size ≤ B) : KeepL b g w w' :=
  ⟨hb.block b (Nat.lt_of_lt_of_le h.lt.1 hB), hb.block g (Nat.lt_of_lt_of_le h.lt.2 hB)⟩
theorem AL.ext {w w' : World} {b g n : Nat} {wd : Nat → Int} (h : AL w b g n wd) (hb : Below w.heap.size w w') : AL w' b g n wd := h.keep (h.keepB hb (Nat.le_refl _))
theorem AL.rg {w w' : World} {b g n lo hi : Nat} {wd : Nat → Int} (h : AL w b g n wd) (hr : Rg lo hi w w') (h1 : b < lo ∨ hi ≤ b) (h2 : g < lo ∨ hi ≤ g) : AL w' b g n wd :=
  h.keep ⟨hr.block b h.lt.1 h1, hr.block g h.lt.2 h2⟩
theorem AL.at {w : World} {b g n : Nat} {wd : Nat → Int} (h : AL w b g n wd) (l : Nat) (hl : l < n) : w.cell? ⟨g, l * 2, none⟩ = some (.int .i64 (wd (2 * l))) ∧ w.cell? ⟨g, l * 2 + 1, none⟩ = some (.int .i64 (wd (2 * l + 1))) := by
  refine ⟨own_cell h.own ?_, own_cell h.own ?_⟩
  · rw [tab_at _ (by omega), Nat.mul_comm]
  · rw [tab_at _ (by omega), Nat.mul_comm]
theorem range_take {n k : Nat} (h : k < n) : (List.range n).take (k + 1) = (List.range n).take k ++ [k] := by
  rw [List.take_range, List.take_range, Nat.min_eq_left (by omega), Nat.min_eq_left (by omega), List.range_succ]

theorem ballseq_any (A : Option Addr) (n c : Nat) (w : World) : Calls Tryd.prog 69 #[.slice A n c] w fun e w' =>
    e = .returned (.func (.func 92) #[] #[.pointer (some ⟨w.heap.size, 0, none⟩)]) ∧ w' = w.alloc (.cells #[.slice A n c] 103) := by
  go_enter Tryd.func69, Tryd.ntmps69
  go_wp2
  go_ret
  exact ⟨rfl, rfl⟩
theorem ball_ok {w : World} {lo hi p : Nat} {m : Mm} (h : Bm w lo hi p m) (hL : Lims w) :
    Calls Tryd.prog 26 #[.pointer (some ⟨p, 0, none⟩)] w fun e w' => ∃ b g, e = .returned (.func (.func 92) #[] #[.pointer (some ⟨b, 0, none⟩)]) ∧ AL w' b g m.n m.wd ∧ w.heap.size ≤ b ∧ w.heap.size ≤ g ∧ Below w.heap.size w w' := by
  have H1 := Lib.hid (blines_ok h hL)
  clear h hL
  go_enter Tryd.func26, Tryd.ntmps26
  go_wp2_with fail
  refine H1.out.mono ?_
  rintro e w1 ⟨g, rfl, hA⟩
  have HA := Lib.hid hA
  clear hA
  go_wp2_with fail
  refine (ballseq_any _ _ _ _).mono ?_
  rintro e w2 ⟨rfl, hw⟩
  have HW := Lib.hid hw
  clear hw
  go_wp2_with fail
  go_ret
  have hs := HA.out.be.size
  refine ⟨_, g, rfl, ⟨?_, ?_⟩, hs, own_ge HA.out.row rfl, ?_⟩
  · rw [HW.out]; exact alNew rfl
  · rw [HW.out]
    have := row_mono (b' := 0) (row_keep (w' := w1.alloc (.cells #[.slice (some ⟨g, 0, none⟩) m.n m.n] 103)) HA.out.row fun k hk => Below.heap_alloc _ _ _ (lt_own HA.out.row hk)) (Nat.zero_le _)
    rw [tab_ext (g := fun k => .int .i64 (m.wd k)) (fun k hk => by simp only [allV]; rw [if_pos (by omega)])] at this
    exact this
  · rw [HW.out]
    exact HA.out.be.alloc hs _

set_option maxRecDepth 100000 in
set_option maxHeartbeats 2000000 in
theorem all_stops (k : Nat) (hk : 1 ≤ k) (b g n : Nat) (wd : Nat → Int) (w : World) (h : AL w b g n wd) (hn : n ≤ 1000) :
    SeqStopsK Fence.wide k Tryd.prog 92 #[.pointer (some ⟨b, 0, none⟩)] (fun i : Nat => #[.int .i64 i, .agg #[.int .i64 (wd (2 * i)), .int .i64 (wd (2 * i + 1))]]) (KeepL b g) (fun ys => ys = List.range n) (fun pre => pre <+: List.range n) n w := fun l J Jx W hW hJ _ hY h0 => by
  have HN := Lib.hid (h.ext hW)
  obtain ⟨hbW, hgW⟩ := HN.out.lt
  have hbc : W.cell? ⟨b, 0, none⟩ = some (.slice (some ⟨g, 0, none⟩) n n) := by simp [World.cell?, HN.out.box]
  clear h hW
  refine callsIn_of_wp Tryd.func92 rfl trivial ?_ rfl
  simp only [Tryd.ntmps92, List.size_toArray, List.length_cons, List.length_nil, Nat.reduceAdd, Nat.reduceSub, Array.replicate_succ, Array.replicate_zero, List.push_toArray, List.append_toArray, List.nil_append, List.cons_append]
  gi_wp2
  gi_loopw [7] (fun i wr => ∃ k : Nat, k ≤ n ∧ i = .int .i64 k ∧ J ((List.range n).take k) wr ∧ Hid (KeepL b g W wr) ) (fun i _ => n - (intOf i).toNat)
  case atStart => exact ⟨0, by omega, rfl, h0, Lib.hid (KeepL.refl _ _ _)⟩
  case round =>
    obtain ⟨k, hk, rfl, hJs, HK⟩ := hrel
    by_cases hlt : k < n
    · obtain ⟨x0, x1⟩ := (HN.out.keep HK.out).at k hlt
      have hgl := (HN.out.keep HK.out).lt.2
      have HT : Hid ((List.range n).take (k + 1) = (List.range n).take k ++ [k]) := Lib.hid (range_take hlt)
      have ek : decide ((k : Int) < (n : Int)) = true := by simp; omega
      have hJa : J ((List.range n).take k) (wr.alloc (.cells #[.int .i64 (wd (2 * k)), .int .i64 (wd (2 * k + 1))] 26)) :=
        hJ _ _ _ none hJs (World.grownBy_alloc _ _ none) (fun r e => by cases e)
      obtain ⟨fn, tmps, assign, body, hy, hR⟩ := hY _ k _ hJa (by simp; omega)
      have hJx := hR
      clear hR
      gi_wp2
      refine hJx.mono ?_
      rintro e W3 (⟨rfl, hJ3, hk3⟩ | ⟨rfl, hJx3⟩)
      · gi_wp2
        have hka := (HN.out.keep HK.out).keepB ((Below.refl _ wr).alloc (Nat.le_refl _) (.cells #[.int .i64 (wd (2 * k)), .int .i64 (wd (2 * k + 1))] 26)) (Nat.le_refl _)
        go_roundw
        case rel => exact ⟨k + 1, by omega, by go_num, by rw [HT.out]; exact hJ3, Lib.hid ((HK.out.trans hka).trans hk3)⟩
        case measure => simp [intOf]; omega
      · gi_wp2
        refine bodyPost_ret (results_none rfl _ _ _) rfl ?_
        exact ⟨⟨_, rfl⟩, .inr ⟨_, by rw [← HT.out]; exact List.take_prefix _ _, hJx3⟩⟩
    · have ek : decide ((k : Int) < (n : Int)) = false := by simp; omega
      have hkx : k = n := by omega
      have HJs : Hid (J (List.range n) wr) := Lib.hid (by rw [hkx, List.take_of_length_le (by simp)] at hJs; exact hJs)
      clear hkx hJs
      gi_wp2
      go_end0
      exact ⟨⟨_, rfl⟩, .inl ⟨_, rfl, HJs.out⟩⟩

end Go.Proofs.YtkfnjpmigifomaaDoor
