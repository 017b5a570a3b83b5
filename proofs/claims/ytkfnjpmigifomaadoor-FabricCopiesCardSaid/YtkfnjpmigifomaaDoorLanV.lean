/- What this text holds: what a lane's All goes through, as a contract for all loop bodies; a copy of notes. No condition. -/
import Derived.Test.YtkfnjpmigifomaaDoorLanT
import Derived.Test.YtkfnjpmigifomaaDoorRnd
import Derived.RangeFuncBound
import Derived.RangeFuncCalls
import Derived.RangeFuncLeaves
import Derived.Shelf.Abstract
import Derived.Shelf.RegionOpen
import Derived.OwnWalkIn
import Derived.TacticsInMore
import Derived.LoopNIn
import Derived.LoopIn
import Derived.Lib.SliceRun
namespace Go.Proofs.YtkfnjpmigifomaaDoor
open Go.RowKit Go.Shelf
attribute [local go_sem] Oper.semAt_some

/-- A note's value, written out. -/
abbrev Nt.out (x : Nt) : Value := .agg #[.int .i64 x.k, .int .i64 x.c, .int .i64 x.l, .int .i64 x.w, .int .i64 x.s, .int .i64 x.a, .int .i64 x.b, .bool x.d, .int .i64 x.n]

theorem cloneN_nil (w : World) : Calls Tryd.prog 101 #[.slice none 0 0] w fun e w' => e = .returned (.slice none 0 0) ∧ w' = w := by
  have hnil := fun wx => Lib.run_eql_slice_nil (P := Tryd.prog) wx 69 74 none 0 0 0 0 Tryd.underlying69
  go_enter Tryd.func101, Tryd.ntmps101
  go_wp2_with fail
  go_ret
  exact ⟨rfl, rfl⟩
set_option maxRecDepth 100000 in
theorem cloneN_some (a : Addr) (c : Nat) (xs : List Nt) (w : World) (h : SlN w (some a) xs) (hn : xs.length ≤ 1000) :
    Calls Tryd.prog 101 #[.slice (some a) xs.length c] w fun e w' => ∃ v, e = .returned v ∧ w'.ownsRow w.heap.size 74 9 v xs.length (flatN xs) ∧ Below w.heap.size w w' := by
  obtain ⟨i0, hi, hz0, hz1, hz2⟩ := info_parts info_note
  have H := Lib.hid h
  clear h
  have hnil := fun wx => Lib.run_eql_slice_nil (P := Tryd.prog) wx 69 74 (some a) xs.length c 0 0 Tryd.underlying69
  go_enter Tryd.func101, Tryd.ntmps101
  go_wp2_with (at_builtin; refine wpList_append_own _ rfl _ _ 69 rfl w.heap.size 74 i0 Nt.zero.val 9 72 Tryd.underlying69 hi hz0 hz1 hz2 rfl (by decide) _ _ _ rfl (World.ownsRow_made w #[] 0 (Nat.le_refl _) (Nat.zero_le _) rfl) a xs.length c (flatN xs) rfl (flatN_len xs) ?c1 ?c2 ?c3 ?c4 ?c5 ?_)
  case c1 => exact (H.out.ext ((Below.refl _ _).alloc (Nat.le_refl _) _)).cells
  case c2 => exact flatN_one xs
  case c3 => unfold maxLen; omega
  case c4 => omega
  case c5 => simp
  intro v' w1 hown hgrow _
  have HO : Hid (w1.ownsRow w.heap.size 74 9 v' xs.length (flatN xs)) := Lib.hid (by simpa using hown)
  have HB : Hid (Below w.heap.size w w1) := Lib.hid (((Below.refl w.heap.size w).alloc (Nat.le_refl _) (.cells #[] 74)).grown hgrow (by simp) (fun k hk => by simp [Value.ownBlock] at hk; omega))
  clear hown hgrow hnil
  go_wp2_with fail
  go_ret
  exact ⟨v', rfl, HO.out, HB.out⟩
theorem cloneN_any (A : Option Addr) (c : Nat) (xs : List Nt) (w : World) (h : SlN w A xs) (hc : A = none → c = 0) (hn : xs.length ≤ 1000) :
    Calls Tryd.prog 101 #[.slice A xs.length c] w fun e w' => ∃ v, e = .returned v ∧ w'.ownsRow w.heap.size 74 9 v xs.length (flatN xs) ∧ Below w.heap.size w w' := by
  cases A with
  | some a => exact cloneN_some a c xs w h hn
  | none =>
    have hx : xs = [] := by
      cases xs with
      | nil => rfl
      | cons y ys => obtain ⟨b, off, h, _⟩ := h (by simp); cases h
    subst hx
    obtain rfl := hc rfl
    exact (cloneN_nil w).mono fun e w' ⟨he, hw⟩ => ⟨_, he, World.ownsRow_nil _ _ _ _, by rw [hw]; exact Below.refl _ _⟩

/-- What All goes through: a box of a slice that nobody else has. -/
structure NV (w : World) (b : Nat) (v : Value) (xs : List Nt) : Prop where
  box : w.heap[b]? = some (.cells #[v] 69 (0, 0))
  own : w.ownsRow 0 74 9 v xs.length (flatN xs)
theorem NV.lt {w : World} {b : Nat} {v : Value} {xs : List Nt} (h : NV w b v xs) : b < w.heap.size := (Array.getElem?_eq_some_iff.1 h.box).1
/-- The blocks of what All goes through lie as they lay. -/
def KeepN (b : Nat) (v : Value) (W W' : World) : Prop := W'.heap[b]? = W.heap[b]? ∧ ∀ g, v.ownBlock = some g → W'.heap[g]? = W.heap[g]?
theorem KeepN.refl (b : Nat) (v : Value) (W : World) : KeepN b v W W := ⟨rfl, fun _ _ => rfl⟩
theorem KeepN.trans {b : Nat} {v : Value} {x y z : World} (h : KeepN b v x y) (k : KeepN b v y z) : KeepN b v x z := ⟨k.1.trans h.1, fun g hg => (k.2 g hg).trans (h.2 g hg)⟩
theorem NV.keep {w w' : World} {b : Nat} {v : Value} {xs : List Nt} (h : NV w b v xs) (k : KeepN b v w w') : NV w' b v xs := by
  refine ⟨k.1.trans h.box, h.own.1, ?_⟩
  rcases h.own.2 with hn | ⟨g, cap, cur, rfl, hb, hgg, rest⟩
  · exact .inl hn
  · exact .inr ⟨g, cap, cur, rfl, hb, (k.2 g rfl).trans hgg, rest⟩
theorem NV.keepB {w w' : World} {b B : Nat} {v : Value} {xs : List Nt} (h : NV w b v xs) (hb : Below B w w') (hB : w.heap.size ≤ B) : KeepN b v w w' :=
  ⟨hb.block b (Nat.lt_of_lt_of_le h.lt hB), fun g hg => hb.block g (Nat.lt_of_lt_of_le (h.own.lt g hg).2 hB)⟩
theorem NV.ext {w w' : World} {b : Nat} {v : Value} {xs : List Nt} (h : NV w b v xs) (hb : Below w.heap.size w w') : NV w' b v xs := h.keep (h.keepB hb (Nat.le_refl _))
theorem NV.val {w : World} {b : Nat} {v : Value} {xs : List Nt} (h : NV w b v xs) : ∃ A cap, v = .slice A xs.length cap ∧ ∀ a, A = some a → ∃ g, a = ⟨g, 0, none⟩ ∧ v.ownBlock = some g ∧ g < w.heap.size ∧ ∀ i, i < xs.length → ∀ j u, (atN xs i).cells[j]? = some u → w.cell? ⟨g, i * 9 + j, none⟩ = some u := by
  rcases h.own.2 with ⟨hv, h0⟩ | ⟨g, cap, cur, hv, hb, hg, hc1, hc2, hc3, hc4⟩
  · exact ⟨none, 0, by rw [hv, h0], fun a ha => by cases ha⟩
  · refine ⟨_, cap, hv, fun a ha => ⟨g, (Option.some.inj ha).symm, by rw [hv]; rfl, (Array.getElem?_eq_some_iff.1 hg).1, fun i hi j u hu => ?_⟩⟩
    have hj : j < 9 := (List.getElem?_eq_some_iff.1 hu).1
    have h1 := flatN_at xs i j hi hj
    rw [hu, ← hc4, List.getElem?_take, if_pos (by omega)] at h1
    unfold World.cell?
    rw [hg]
    simpa using h1

theorem valuesN_any (A : Option Addr) (n c : Nat) (w : World) : Calls Tryd.prog 109 #[.slice A n c] w fun e w' =>
    e = .returned (.func (.func 111) #[] #[.pointer (some ⟨w.heap.size, 0, none⟩)]) ∧ w' = w.alloc (.cells #[.slice A n c] 69) := by
  go_enter Tryd.func109, Tryd.ntmps109
  go_wp2
  go_ret
  exact ⟨rfl, rfl⟩

set_option maxRecDepth 100000 in
theorem allN_any (p : Nat) (d : Int) (v : Value) (xs : List Nt) (w : World) (h : La w p d v xs) (hn : xs.length ≤ 1000) : Calls Tryd.prog 102 #[.pointer (some ⟨p, 0, none⟩)] w fun e w' =>
    ∃ b v', e = .returned (.func (.func 111) #[] #[.pointer (some ⟨b, 0, none⟩)]) ∧ NV w' b v' xs ∧ w.heap.size ≤ b ∧ (∀ g, v'.ownBlock = some g → w.heap.size ≤ g) ∧ Below w.heap.size w w' := by
  have hc := h.own
  obtain ⟨A, cap, rfl, hsl, _⟩ := h.val
  have hc0 : Hid (A = none → cap = 0) := Lib.hid (fun e => by
    rcases hc.2 with ⟨hv, _⟩ | ⟨g, k, cur, hv, _⟩
    · exact (Value.slice.inj hv).2.2
    · subst e; cases (Value.slice.inj hv).1)
  have HS := Lib.hid hsl
  have c1 := h.c1
  have hl := h.lt
  clear h hc hsl
  go_enter Tryd.func102, Tryd.ntmps102
  go_wp2_with fail
  refine (cloneN_any A cap xs _ HS.out hc0.out hn).mono ?_
  rintro e w1 ⟨v', rfl, ho, hb⟩
  have HO := Lib.hid ho
  have HB := Lib.hid hb
  obtain ⟨A2, l2, k2, rfl⟩ := owns_slice ho
  clear ho hb
  go_wp2_with fail
  refine (valuesN_any A2 l2 k2 _).mono ?_
  rintro e w2 ⟨rfl, hw⟩
  have HW := Lib.hid hw
  clear hw
  go_wp2_with fail
  go_ret
  have hs := HB.out.size
  refine ⟨_, _, rfl, ?_, hs, fun g hg => owns_from HO.out g hg, ?_⟩
  · rw [HW.out]
    exact ⟨World.alloc_heap_new _ _, owns_mono (HO.out.alloc _) (Nat.zero_le _)⟩
  · rw [HW.out]
    exact HB.out.alloc hs _

set_option maxRecDepth 100000 in
set_option maxHeartbeats 2000000 in
theorem valuesN_stops (n : Nat) (hn : 1 ≤ n) (b : Nat) (v : Value) (xs : List Nt) (w : World) (h : NV w b v xs) (hx : xs.length ≤ 1000) :
    SeqStopsK Fence.wide n Tryd.prog 111 #[.pointer (some ⟨b, 0, none⟩)] (fun x : Nt => #[x.out]) (KeepN b v) (fun ys => ys = xs) (fun pre => pre <+: xs) xs.length w := fun l J Jx W hW hJ _ hY h0 => by
  have HN := Lib.hid (h.ext hW)
  have hbW := HN.out.lt
  obtain ⟨A, cap, rfl, hA⟩ := HN.out.val
  have hbc : W.cell? ⟨b, 0, none⟩ = some (.slice A xs.length cap) := by simp [World.cell?, HN.out.box]
  have HA := Lib.hid hA
  clear h hA hW
  refine callsIn_of_wp Tryd.func111 rfl trivial ?_ rfl
  simp only [Tryd.ntmps111, List.size_toArray, List.length_cons, List.length_nil, Nat.reduceAdd, Nat.reduceSub, Array.replicate_succ, Array.replicate_zero, List.push_toArray, List.append_toArray, List.nil_append, List.cons_append]
  gi_wp2
  gi_loopw [7] (fun i wr => ∃ k : Nat, k ≤ xs.length ∧ i = .int .i64 k ∧ J (xs.take k) wr ∧ Hid (KeepN b (.slice A xs.length cap) W wr) ) (fun i _ => xs.length - (intOf i).toNat)
  case atStart => exact ⟨0, by omega, rfl, h0, Lib.hid (KeepN.refl _ _ _)⟩
  case round =>
    obtain ⟨k, hk, rfl, hJs, HK⟩ := hrel
    by_cases hlt : k < xs.length
    · cases A with
      | none =>
        exfalso
        rcases HN.out.own.2 with ⟨_, hz⟩ | ⟨g, c, cur, hv, _⟩
        · omega
        · cases hv
      | some a =>
        obtain ⟨g, rfl, hob, hgl, hcs⟩ := HA.out a rfl
        have cx : ∀ jj u, (atN xs k).cells[jj]? = some u → wr.cell? ⟨g, k * 9 + jj, none⟩ = some u := fun jj u hu => (World.cell?_of_block (a := ⟨g, k * 9 + jj, none⟩) (HK.out.2 g hob)).trans (hcs k hlt jj u hu)
        have x0 : wr.cell? ⟨g, k * 9, none⟩ = _ := cx 0 _ rfl
        have x1 := cx 1 _ rfl
        have x2 := cx 2 _ rfl
        have x3 := cx 3 _ rfl
        have x4 := cx 4 _ rfl
        have x5 := cx 5 _ rfl
        have x6 := cx 6 _ rfl
        have x7 := cx 7 _ rfl
        have x8 := cx 8 _ rfl
        have HT : Hid (xs.take (k + 1) = xs.take k ++ [atN xs k]) := Lib.hid (by rw [List.take_succ_eq_append_getElem hlt]; simp [atN, hlt])
        have ek : decide ((k : Int) < (xs.length : Int)) = true := by simp; omega
        have HCS := Lib.hid hcs
        clear cx hcs hob
        have hJa : J (xs.take k) (wr.alloc (.cells #[.int .i64 (atN xs k).k, .int .i64 (atN xs k).c, .int .i64 (atN xs k).l, .int .i64 (atN xs k).w, .int .i64 (atN xs k).s, .int .i64 (atN xs k).a, .int .i64 (atN xs k).b, .bool (atN xs k).d, .int .i64 (atN xs k).n] 74)) :=
          hJ _ _ _ none hJs (World.grownBy_alloc _ _ none) (fun r e => by cases e)
        obtain ⟨fn, tmps, assign, body, hy, hR⟩ := hY _ (atN xs k) _ hJa (by simp; omega)
        have hJx := hR
        clear hR
        gi_wp2
        refine hJx.mono ?_
        rintro e W3 (⟨rfl, hJ3, hk3⟩ | ⟨rfl, hJx3⟩)
        · gi_wp2
          have hka := (HN.out.keep HK.out).keepB ((Below.refl _ wr).alloc (Nat.le_refl _) (.cells #[.int .i64 (atN xs k).k, .int .i64 (atN xs k).c, .int .i64 (atN xs k).l, .int .i64 (atN xs k).w, .int .i64 (atN xs k).s, .int .i64 (atN xs k).a, .int .i64 (atN xs k).b, .bool (atN xs k).d, .int .i64 (atN xs k).n] 74)) (Nat.le_refl _)
          go_roundw
          case rel => exact ⟨k + 1, by omega, by go_num, by rw [HT.out]; exact hJ3, Lib.hid ((HK.out.trans hka).trans hk3)⟩
          case measure => simp [intOf]; omega
        · gi_wp2
          refine bodyPost_ret (results_none rfl _ _ _) rfl ?_
          exact ⟨⟨_, rfl⟩, .inr ⟨_, by rw [← HT.out]; exact List.take_prefix _ _, hJx3⟩⟩
    · have ek : decide ((k : Int) < (xs.length : Int)) = false := by simp; omega
      have hkx : k = xs.length := by omega
      have HJs : Hid (J xs wr) := Lib.hid (by rw [hkx, List.take_length] at hJs; exact hJs)
      clear hkx hJs
      gi_wp2
      go_end0
      exact ⟨⟨_, rfl⟩, .inl ⟨_, rfl, HJs.out⟩⟩

end Go.Proofs.YtkfnjpmigifomaaDoor
