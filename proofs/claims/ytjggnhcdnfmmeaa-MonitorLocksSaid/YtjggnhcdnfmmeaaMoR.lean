/- What this text holds: which calls of a monitor run: an iterator of the granules. No condition. -/
import Derived.Test.YtjggnhcdnfmmeaaMoB
import Derived.Test.YtjggnhcdnfmmeaaMoS
namespace Go.Proofs.Ytjggnhcdnfmmeaa
open Go.RowKit Go.Maps Go.Sort Go.Shelf
attribute [local go_sem] Oper.semAt_some

/-- slices.Sort's two contracts, at the fence that asks nothing. -/
theorem sortsA (m : Nat) : AnyZI.SortsIn Try.prog sortedA_ren Fence.wide m :=
  ⟨fun blk off cap ss W hH hblk hsz => callsIn_wide.2 (AnyM.slices_Sort_int sortA blk off cap ss W hH hblk hsz),
   fun p cap W => callsIn_wide.2 (AnyM.slices_Sort_int_none sortA p cap W)⟩
theorem svals_any (A : Option Addr) (l c : Nat) (w : World) : Calls Try.prog 59 #[.slice A l c] w fun e w' => e = .returned (.func (.func 63) #[] #[.pointer (some ⟨w.heap.size, 0, none⟩)]) ∧ w' = w.alloc (.cells #[.slice A l c] 64) := by
  go_enter Try.func59, Try.ntmps59
  go_wp2_with fail
  go_ret
  exact ⟨rfl, rfl⟩
theorem keys_len {D : DataW Value} (h : IsMap D) : (intKeys D).length = Maps.size D := by
  obtain ⟨es, rfl⟩ := h
  simp [intKeys, Maps.size]
set_option maxHeartbeats 1000000 in
theorem mrun_any {w : World} {B p t g b M : Nat} {n : Int} {s : Ms} (h : Mn w B p t g b n M s) (hM : M < 1000) :
    Calls Try.prog 50 #[.pointer (some ⟨p, 0, none⟩)] w fun e w' => ∃ b2 v ks, e = .returned (.func (.func 63) #[] #[.pointer (some ⟨b2, 0, none⟩)]) ∧ IB w' b2 v ks ∧ (∀ k : Int, k ∈ ks ↔ (s.F k).isSome = true) ∧ w.heap.size ≤ b2 ∧ (∀ g9, v.ownBlock = some g9 → w.heap.size ≤ g9) ∧ ks.length ≤ M ∧ Below w.heap.size w w' := by
  obtain ⟨c0, c1, c2⟩ := h.cells
  have pl := h.lt.1
  obtain ⟨D0, hown, hF⟩ := h.mp
  have hbl := hown.lt
  have hsz := hown.size_le
  have HKL := Lib.hid (keys_len hown.isMap)
  have HM := Lib.hid (fun k : Int => (mem_keys hown k).trans (by rw [(hF k).2]))
  refine (callsIn_wide (n := 6)).1 ?_
  have hseq : SeqGives Fence.wide 2 Try.prog 66 #[.pointer (some ⟨w.heap.size, 0, none⟩)] encZ (fun ss => ss.Perm (intKeys D0)) (Maps.size D0) (w.alloc (.cells #[.map (some b)] 74)) :=
    AnyZI.keys_gives (ρ := keysA_ren) { keysA with } Fence.wide _ trivial rfl (by omega) w.heap.size b M D0 _ (by simp) (by simp) (by
      obtain ⟨es, clock, hb, Ft, hs, hD⟩ := hown
      exact ⟨es, clock, (Below.heap_alloc _ _ b hbl).trans hb, Ft, hs, hD⟩)
  have cK : ∀ mb W, CallsIn Fence.wide 5 Try.prog 61 #[.map mb] W fun e w' => e = .returned (.func (.func 66) #[] #[.pointer (some ⟨W.heap.size, 0, none⟩)]) ∧ w' = W.alloc (.cells #[.map mb] 74) := fun mb W => AnyZI.keys_in keysA Fence.wide 5 trivial rfl mb W
  have cS := AnyZI.sorted_in sortedA Fence.wide 5 trivial trivial trivial trivial rfl (by omega) (sortsA _) (enters_of Try.func65 (by kernel_rfl) rfl) 66 #[.pointer (some ⟨w.heap.size, 0, none⟩)] trivial (enters_of Try.func66 (by kernel_rfl) rfl) _ _ (by unfold maxLen; omega) (by omega) _ hseq
  change CallsIn _ _ Try.prog 60 _ _ _ at cS
  have hfK : Fence.wide.fn 61 := trivial
  have hfS : Fence.wide.fn 60 := trivial
  have HS := Lib.hid (And.intro hsz hM)
  clear h hown hF hseq hbl hsz hM
  refine callsIn_of_wp Try.func50 rfl trivial ?_ rfl
  simp only [Try.ntmps50, List.size_toArray, List.length_cons, List.length_nil, Nat.reduceAdd, Nat.reduceSub, Array.replicate_succ, Array.replicate_zero, List.push_toArray, List.append_toArray, List.nil_append, List.cons_append]
  gi_wp2_with (first
    | (gi_at_call 61; refine (cK _ _).mono ?_; rintro e w' ⟨rfl, rfl⟩)
    | (gi_at_call 60; refine cS.mono ?_; rintro e w' ⟨v, ss, rfl, hS, hrow, hnil, hb⟩))
  obtain ⟨A, l, c, rfl⟩ : ∃ A l c, v = .slice A l c := by
    rcases hrow.2 with ⟨hv, _⟩ | ⟨g9, cap, cur, hv, _⟩
    · exact ⟨_, _, _, hv⟩
    · exact ⟨_, _, _, hv⟩
  refine ⟨trivial, ?_⟩
  refine (callsIn_wide.2 (svals_any A l c w')).mono ?_
  rintro e w3 ⟨rfl, hw3⟩
  have hb3 : Below w'.heap.size w' w3 := by rw [hw3]; exact ext_alloc _ (Below.refl _ _)
  have hbw : Below w.heap.size w w' := ext_next hb (by repeat (with_reducible first | exact Below.refl _ _ | assumption | (refine ext_next (by assumption) ?_) | apply ext_alloc | apply ext_past | apply ext_drew | apply ext_drewN))
  have hbox : w3.heap[w'.heap.size]? = some (.cells #[.slice A l c] 64 (0, 0)) := by rw [hw3]; exact alNew rfl
  have hlen : (ss.mergeSort (fun x y => decide (x ≤ y))).length = ss.length := List.length_mergeSort ..
  have HIB : Hid (IB w3 w'.heap.size (.slice A l c) (ss.mergeSort (fun x y => decide (x ≤ y)))) := Lib.hid ⟨hbox, by
    rw [hlen]
    refine ⟨hrow.1, ?_⟩
    rcases hrow.2 with hn | ⟨g9, cap, cur, hv, hb9, hgg, rest⟩
    · exact .inl hn
    · exact .inr ⟨g9, cap, cur, hv, Nat.zero_le _, (hb3.block g9 (lt_of hgg)).trans hgg, rest⟩⟩
  have HMEM : Hid (∀ k : Int, k ∈ ss.mergeSort (fun x y => decide (x ≤ y)) ↔ (s.F k).isSome = true) := Lib.hid (fun k => by rw [← HM.out k, List.mem_mergeSort]; exact hS.mem_iff)
  have HLE : Hid ((ss.mergeSort (fun x y => decide (x ≤ y))).length ≤ M) := Lib.hid (by rw [hlen, hS.length_eq, HKL.out]; exact HS.out.1)
  have HOB : Hid (∀ g9, (Value.slice A l c).ownBlock = some g9 → w.heap.size ≤ g9) := Lib.hid (fun g9 hg => by have := (hrow.lt g9 hg).1; simp at this; omega)
  have HSZ := Lib.hid hbw.size
  have HBW := Lib.hid (ext_trans hbw hb3)
  clear hw3 hb3 hbw hbox hlen hrow hnil hb hS
  gi_wp2_with fail
  go_ret
  exact ⟨_, _, _, rfl, HIB.out, HMEM.out, HSZ.out, HOB.out, HLE.out, HBW.out⟩

end Go.Proofs.Ytjggnhcdnfmmeaa
