/- What this text holds: a checker's walk as it is told, what All goes through as a contract for all loop bodies; a nil checker. No condition. -/
import Derived.Test.YtjggnhcdnfmmeaaChkP
import Derived.RangeFuncBound
import Derived.RangeFuncCalls
import Derived.RangeFuncLeaves
import Derived.Shelf.Abstract
import Derived.Shelf.RegionOpen
import Derived.OwnWalkIn
import Derived.TacticsInMore
import Derived.LoopNIn
import Derived.LoopIn
import Derived.Lib.SliceRun
namespace Go.Proofs.Ytjggnhcdnfmmeaa
open Go.RowKit Go.Shelf
attribute [local go_sem] Oper.semAt_some

theorem cwalking_nil (w : World) : Calls Try.prog 20 #[.pointer none] w fun e w' => e = .returned (.tuple #[.int .i64 0, .int .i64 0, .bool false]) ∧ Below w.heap.size w w' := by
  go_enter Try.func20, Try.ntmps20
  go_wp2
  go_ret3
  exact ⟨rfl, (by repeat (with_reducible first | exact Below.refl _ _ | assumption | (refine ext_next (by assumption) ?_) | apply ext_alloc | apply ext_past | apply ext_drew | apply ext_drewN))⟩

theorem ccopy_nil (w : World) : Calls Try.prog 22 #[.pointer none] w fun e w' => e = .returned (.pointer none) ∧ Below w.heap.size w w' := by
  go_enter Try.func22, Try.ntmps22
  go_wp2
  go_ret
  exact ⟨rfl, (by repeat (with_reducible first | exact Below.refl _ _ | assumption | (refine ext_next (by assumption) ?_) | apply ext_alloc | apply ext_past | apply ext_drew | apply ext_drewN))⟩

/-- What All goes through: a box of a slice that nobody else has. -/
structure FV (w : World) (b : Nat) (v : Value) (xs : List Fa) : Prop where
  box : w.heap[b]? = some (.cells #[v] 91 (0, 0))
  own : w.ownsRow 0 98 2 v xs.length (flatF xs)
theorem FV.lt {w : World} {b : Nat} {v : Value} {xs : List Fa} (h : FV w b v xs) : b < w.heap.size := (Array.getElem?_eq_some_iff.1 h.box).1
/-- The blocks of what All goes through lie as they lay. -/
def KeepF (b : Nat) (v : Value) (W W' : World) : Prop := W'.heap[b]? = W.heap[b]? ∧ ∀ g, v.ownBlock = some g → W'.heap[g]? = W.heap[g]?
theorem KeepF.refl (b : Nat) (v : Value) (W : World) : KeepF b v W W := ⟨rfl, fun _ _ => rfl⟩
theorem KeepF.trans {b : Nat} {v : Value} {x y z : World} (h : KeepF b v x y) (k : KeepF b v y z) : KeepF b v x z := ⟨k.1.trans h.1, fun g hg => (k.2 g hg).trans (h.2 g hg)⟩
theorem FV.keep {w w' : World} {b : Nat} {v : Value} {xs : List Fa} (h : FV w b v xs) (k : KeepF b v w w') : FV w' b v xs := ⟨k.1.trans h.box, row_keep h.own (fun g hg => k.2 g hg)⟩
theorem FV.keepB {w w' : World} {b B : Nat} {v : Value} {xs : List Fa} (h : FV w b v xs) (hb : Below B w w') (hB : w.heap.size ≤ B) : KeepF b v w w' :=
  ⟨hb.block b (Nat.lt_of_lt_of_le h.lt hB), fun g hg => hb.block g (Nat.lt_of_lt_of_le (h.own.lt g hg).2 hB)⟩
theorem FV.ext {w w' : World} {b : Nat} {v : Value} {xs : List Fa} (h : FV w b v xs) (hb : Below w.heap.size w w') : FV w' b v xs := h.keep (h.keepB hb (Nat.le_refl _))
theorem FV.val {w : World} {b : Nat} {v : Value} {xs : List Fa} (h : FV w b v xs) : ∃ A cap, v = .slice A xs.length cap ∧ ∀ a, A = some a → ∃ g, a = ⟨g, 0, none⟩ ∧ v.ownBlock = some g ∧ g < w.heap.size ∧ ∀ i, i < xs.length → w.cell? ⟨g, i * 2, none⟩ = some (.int .i64 (atF xs i).1) ∧ w.cell? ⟨g, i * 2 + 1, none⟩ = some (.int .i64 (atF xs i).2) := by
  obtain ⟨A, cap, hv, _⟩ := row_form h.own
  subst hv
  refine ⟨A, cap, rfl, fun a ha => ?_⟩
  subst ha
  obtain ⟨g, cur, rfl, _, hgg, _⟩ := row_open h.own
  have hs := row_at h.own
  have e : ∀ q u, (flatF xs)[q]? = some u → w.cell? ⟨g, q, none⟩ = some u := fun q u hu => hs q u hu
  exact ⟨g, rfl, rfl, lt_of hgg, fun i hi => ⟨e _ _ (flatF_at xs i hi).1, e _ _ (flatF_at xs i hi).2⟩⟩

theorem callF_nil (w : World) : Calls Try.prog 21 #[.pointer none] w fun e w' => e = .returned (.func (.func 47) #[] #[.pointer (some ⟨w.heap.size, 0, none⟩)]) ∧ FV w' w.heap.size (.slice none 0 0) [] ∧ Below w.heap.size w w' := by
  go_enter Try.func21, Try.ntmps21
  go_wp2
  go_ret
  exact ⟨rfl, ⟨alNew rfl, World.ownsRow_nil _ _ _ _⟩, (by repeat (with_reducible first | exact Below.refl _ _ | assumption | (refine ext_next (by assumption) ?_) | apply ext_alloc | apply ext_past | apply ext_drew | apply ext_drewN))⟩

set_option maxRecDepth 100000 in
set_option maxHeartbeats 2000000 in
theorem facts_stops (n : Nat) (hn : 1 ≤ n) (b : Nat) (v : Value) (xs : List Fa) (w : World) (h : FV w b v xs) (hx : xs.length ≤ 1000) :
    SeqStopsK Fence.wide n Try.prog 47 #[.pointer (some ⟨b, 0, none⟩)] (fun x : Fa => #[.int .i64 x.1, .int .i64 x.2]) (KeepF b v) (fun ys => ys = xs) (fun pre => pre <+: xs) xs.length w := fun l J Jx W hW hJ _ hY h0 => by
  have HN := Lib.hid (h.ext hW)
  have hbW := HN.out.lt
  obtain ⟨A, cap, rfl, hA⟩ := HN.out.val
  have hbc : W.cell? ⟨b, 0, none⟩ = some (.slice A xs.length cap) := by simp [World.cell?, HN.out.box]
  have HA := Lib.hid hA
  clear h hA hW
  refine callsIn_of_wp Try.func47 rfl trivial ?_ rfl
  simp only [Try.ntmps47, List.size_toArray, List.length_cons, List.length_nil, Nat.reduceAdd, Nat.reduceSub, Array.replicate_succ, Array.replicate_zero, List.push_toArray, List.append_toArray, List.nil_append, List.cons_append]
  gi_wp2
  gi_loopw [7] (fun i wr => ∃ k : Nat, k ≤ xs.length ∧ i = .int .i64 k ∧ J (xs.take k) wr ∧ Hid (KeepF b (.slice A xs.length cap) W wr) ) (fun i _ => xs.length - (intOf i).toNat)
  case atStart => exact ⟨0, by omega, rfl, h0, Lib.hid (KeepF.refl _ _ _)⟩
  case round =>
    obtain ⟨k, hk, rfl, hJs, HK⟩ := hrel
    by_cases hlt : k < xs.length
    · cases A with
      | none =>
        exfalso
        rcases HN.out.own.2 with ⟨_, hz⟩ | ⟨g, c, cur, hv, _⟩
        · omega
        · cases hv
      | some a =>
        obtain ⟨g, rfl, hob, hgl, hcs⟩ := HA.out a rfl
        have x0 := (World.cell?_of_block (a := ⟨g, k * 2, none⟩) (HK.out.2 g hob)).trans (hcs k hlt).1
        have x1 := (World.cell?_of_block (a := ⟨g, k * 2 + 1, none⟩) (HK.out.2 g hob)).trans (hcs k hlt).2
        have HT : Hid (xs.take (k + 1) = xs.take k ++ [atF xs k]) := Lib.hid (take_fact hlt)
        have ek : decide ((k : Int) < (xs.length : Int)) = true := by simp; omega
        have HCS := Lib.hid hcs
        clear hcs hob
        have hJa : J (xs.take k) (wr.alloc (.cells #[.int .i64 (atF xs k).1, .int .i64 (atF xs k).2] 98)) :=
          hJ _ _ _ none hJs (World.grownBy_alloc _ _ none) (fun r e => by cases e)
        obtain ⟨fn, tmps, assign, body, hy, hR⟩ := hY _ (atF xs k) _ hJa (by simp; omega)
        have hJx := hR
        clear hR
        gi_wp2
        refine hJx.mono ?_
        rintro e W3 (⟨rfl, hJ3, hk3⟩ | ⟨rfl, hJx3⟩)
        · gi_wp2
          have hka := (HN.out.keep HK.out).keepB ((Below.refl _ wr).alloc (Nat.le_refl _) (.cells #[.int .i64 (atF xs k).1, .int .i64 (atF xs k).2] 98)) (Nat.le_refl _)
          go_roundw
          case rel => exact ⟨k + 1, by omega, by go_num, by rw [HT.out]; exact hJ3, Lib.hid ((HK.out.trans hka).trans hk3)⟩
          case measure => simp [intOf]; omega
        · gi_wp2
          refine bodyPost_ret (results_none rfl _ _ _) rfl ?_
          exact ⟨⟨_, rfl⟩, .inr ⟨_, by rw [← HT.out]; exact List.take_prefix _ _, hJx3⟩⟩
    · have ek : decide ((k : Int) < (xs.length : Int)) = false := by simp; omega
      have hkx : k = xs.length := by omega
      have HJs : Hid (J xs wr) := Lib.hid (by rw [hkx, List.take_length] at hJs; exact hJs)
      clear hkx hJs
      gi_wp2
      go_end0
      exact ⟨⟨_, rfl⟩, .inl ⟨_, rfl, HJs.out⟩⟩

end Go.Proofs.Ytjggnhcdnfmmeaa
