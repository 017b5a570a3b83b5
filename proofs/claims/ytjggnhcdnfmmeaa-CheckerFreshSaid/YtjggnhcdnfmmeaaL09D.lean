/- What this text holds: the law CheckerLearns, walked, where it says nothing; its facts. No condition. -/
import Derived.Test.YtjggnhcdnfmmeaaL09C
import Derived.Test.YtjggnhcdnfmmeaaCoA
namespace Go.Proofs.Ytjggnhcdnfmmeaa
open Go.RowKit

/-- A list of entries in memory. -/
def SlT (w : World) (A : Option Addr) (l : List En) : Prop :=
  0 < l.length → ∃ b off, A = some ⟨b, off, none⟩ ∧ b < w.heap.size ∧ ∀ i, i < l.length → w.cell? ⟨b, off + i * 2, none⟩ = some (.int .i64 (atE l i).1) ∧ w.cell? ⟨b, off + i * 2 + 1, none⟩ = some (.bool (atE l i).2)

set_option maxRecDepth 100000 in
set_option maxHeartbeats 4000000 in
theorem learns_out (n m : Int) (A B : Option Addr) (k cap j cap' : Nat) (w : World) (h : may9B n m = false ∨ 80 < k) :
    Calls Try.prog 5 #[.agg #[.int .i64 n, .int .i64 m], .slice A k cap, .slice B j cap'] w fun e w' => e = .returned (.bool true) ∧ Below w.heap.size w w' := by
  obtain ⟨W, hW⟩ : ∃ W, W = w.alloc (.cells #[.int .i64 n, .int .i64 m] 22) := ⟨_, rfl⟩
  obtain ⟨c0, c1, cl⟩ := cells2 (show W.heap[w.heap.size]? = some (.cells #[.int .i64 n, .int .i64 m] 22 (0, 0)) by rw [hW]; exact alNew rfl)
  have HB := Lib.hid (show Below w.heap.size w W by rw [hW]; exact ext_alloc _ (Below.refl _ _))
  have HW := Lib.hid hW
  clear hW
  cases hm : may9B n m
  · have HM := Lib.hid hm
    clear h hm
    go_enter Try.func5, Try.ntmps5
    go_wp2_with (rw [← HW.out])
    refine (may9_any n m W).mono ?_
    rintro e w1 ⟨rfl, hw⟩
    subst hw
    rw [HM.out]
    go_wp2_with fail
    refine (awake09 _).mono ?_
    rintro e w2 ⟨rfl, hb⟩
    have HB2 := Lib.hid (ext_trans HB.out hb)
    go_wp2_with fail
    go_ret
    exact ⟨rfl, HB2.out⟩
  have HM := Lib.hid hm
  have hk : 80 < k := by
    rcases h with h | h
    · rw [h] at hm; cases hm
    · exact h
  clear hm h
  have e1 : decide ((k : Int) ≤ 80) = false := by simp; omega
  go_enter Try.func5, Try.ntmps5
  go_wp2_with (rw [← HW.out])
  refine (may9_any n m W).mono ?_
  rintro e w1 ⟨rfl, hw⟩
  subst hw
  rw [HM.out]
  go_wp2_with fail
  refine (few9_any A k cap _).mono ?_
  rintro e w1 ⟨rfl, hw⟩
  subst hw
  rw [e1]
  go_wp2_with fail
  refine (awake09 _).mono ?_
  rintro e w2 ⟨rfl, hb⟩
  have HB2 := Lib.hid (ext_trans HB.out hb)
  go_wp2_with fail
  go_ret
  exact ⟨rfl, HB2.out⟩

theorem kept_m1 (ks : List Fa) : kept (-1) ks = [] := by
  unfold kept
  rw [List.filter_eq_nil_iff]
  intro k _
  simp [delB]

/-- The entries behind one more store, which is refused where nobody may own so. -/
def put1 (es : List En) (i : Nat) (x : En) : List En := if ownB x.1 then es.set i x else es
theorem put1_len (es : List En) (i : Nat) (x : En) : (put1 es i x).length = es.length := by
  unfold put1
  split <;> simp
theorem put1_good {es : List En} {i : Nat} {x : En} (h : Good es) : Good (put1 es i x) := by
  unfold put1
  split
  · rename_i hx
    intro j hj
    have hj' : j < es.length := by simpa using hj
    by_cases hij : i = j
    · subst hij
      have := ownB_bd hx
      simpa [atE, hj'] using this
    · have := h j hj'
      simpa [atE, List.getElem?_set_ne hij] using this
  · exact h
theorem good_new (n : Nat) : Good (List.replicate n (0, false)) := by
  intro i hi
  have : i < n := by simpa using hi
  simp [atE, this]

/-- The last fact of what is known is the one that was learnt. -/
theorem learnt_last {ks : List Fa} {en g o : Int} (hn : ∀ k ∈ ks, k.1 ≠ g) : ∃ k, AtFirst (learnt ks en (g, o)) g k ∧ (atF (learnt ks en (g, o)) k).2 = o := by
  have key : ∀ ls : List Fa, (∀ k ∈ ls, k.1 ≠ g) → ∃ k, AtFirst (ls ++ [(g, o)]) g k ∧ (atF (ls ++ [(g, o)]) k).2 = o := fun ls hl => by
    have e : atF (ls ++ [(g, o)]) ls.length = (g, o) := by simp [atF]
    refine ⟨ls.length, ⟨by simp, by rw [e], fun i hi => ?_⟩, by rw [e]⟩
    have : atF (ls ++ [(g, o)]) i = atF ls i := by simp [atF, List.getElem?_append_left hi]
    rw [this]
    exact hl _ (atF_mem hi)
  unfold learnt
  split
  · exact key ks hn
  · exact key ks.tail (fun k hk => hn k (List.mem_of_mem_tail hk))

end Go.Proofs.Ytjggnhcdnfmmeaa
