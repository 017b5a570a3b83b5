/- What this text holds: numbers within bounds. No condition. -/
import Derived.Test.YtjggnhcdnfmmeaaJdA
namespace Go.Proofs.Ytjggnhcdnfmmeaa
open Go.RowKit

/-- Are all numbers from l to m? -/
def allIn (l m : Int) (xs : List Int) : Bool := xs.all fun x => decide (l ≤ x) && decide (x ≤ m)
def inB (l m x : Int) : Bool := decide (l ≤ x) && decide (x ≤ m)
theorem inB_yes {l m x : Int} (h : l ≤ x ∧ x ≤ m) : inB l m x = true := by unfold inB; simp [h.1, h.2]
theorem inB_no {l m x : Int} (h : x < l ∨ m < x) : inB l m x = false := by
  unfold inB
  rcases h with h | h
  · rw [show decide (l ≤ x) = false by simp; omega]; rfl
  · rw [show decide (x ≤ m) = false by simp; omega]; simp
theorem allIn_take {l m : Int} {xs : List Int} {k : Nat} (hk : k < xs.length) : allIn l m (xs.take (k + 1)) = (allIn l m (xs.take k) && inB l m (xs[k]?.getD 0)) := all_take hk
theorem allIn_get {l m : Int} {xs : List Int} {k : Nat} (hk : k < xs.length) (h : inB l m (xs[k]?.getD 0) = false) : allIn l m xs = false := all_get hk h
set_option maxHeartbeats 1000000 in
theorem within_any (l m : Int) (A : Option Addr) (xs : List Int) (c : Nat) (w : World) (h : SlI w A xs) (hn : xs.length ≤ 100000) :
    Calls Try.prog 51 #[.int .i64 l, .int .i64 m, .slice A xs.length c] w fun e w' => e = .returned (.bool (allIn l m xs)) ∧ w' = w := by
  have H := Lib.hid h
  clear h
  go_enter Try.func51, Try.ntmps51
  go_wp2
  go_loopg [11] xs.length (fun g s11 wr => ∃ k : Nat, k + g = xs.length ∧ s11 = .int .i64 k ∧ Hid (allIn l m (xs.take k) = true) ∧ wr = w)
  case atStart => exact ⟨0, by omega, rfl, Lib.hid (by simp [allIn]), rfl⟩
  case round =>
    obtain ⟨k, hk, rfl, HT, rfl⟩ := hrel
    by_cases hlt : k < xs.length
    · have ek : decide (k < xs.length) = true := by simpa using hlt
      have ek2 : decide ((k : Int) < (xs.length : Int)) = true := by simp; omega
      obtain ⟨b, off, rfl, hbl, hcs⟩ := H.out (by omega)
      have y0 := hcs k hlt
      have HS := Lib.hid (allIn_take (l := l) (m := m) hlt)
      have HG := Lib.hid (allIn_get (l := l) (m := m) hlt)
      have HLT := Lib.hid (And.intro hlt hk)
      clear hcs hk
      generalize xs[k]?.getD 0 = x at *
      by_cases h1 : x < l
      · have e1 : decide (x < l) = true := by simpa using h1
        have HF := Lib.hid (HG.out (inB_no (.inl h1)))
        clear h1 HG HS
        go_wp2_with fail
        go_ret
        exact ⟨ret_bool (by rw [HF.out]), rfl⟩
      have e1 : decide (x < l) = false := by simpa using h1
      by_cases h2 : m < x
      · have e2 : decide (x > m) = true := by simpa using h2
        have HF := Lib.hid (HG.out (inB_no (.inr h2)))
        clear h1 h2 HG HS
        go_wp2_with fail
        go_ret
        exact ⟨ret_bool (by rw [HF.out]), rfl⟩
      have e2 : decide (x > m) = false := by simpa using h2
      have HN := Lib.hid (show allIn l m (xs.take (k + 1)) = true by rw [HS.out, HT.out, inB_yes ⟨by omega, by omega⟩]; rfl)
      clear h1 h2 HG HS
      go_wp2_with fail
      go_roundg (xs.length - (k + 1))
      case measure => have := HLT.out; omega
      case rel => exact ⟨k + 1, by have := HLT.out; omega, by go_num, HN, rfl⟩
    · have ek : decide (k < xs.length) = false := by simpa using hlt
      have ek2 : decide ((k : Int) < (xs.length : Int)) = false := by simp; omega
      have HF := Lib.hid (show allIn l m xs = true by have := HT.out; rwa [List.take_of_length_le (by omega)] at this)
      clear hk hlt
      go_wp2_with fail
      go_ret
      exact ⟨ret_bool (by rw [HF.out]), rfl⟩
theorem within1 (l m x : Int) (b : Nat) (w : World) (hc : w.cell? ⟨b, 0, none⟩ = some (.int .i64 x)) :
    Calls Try.prog 51 #[.int .i64 l, .int .i64 m, .slice (some ⟨b, 0, none⟩) 1 1] w fun e w' => e = .returned (.bool (inB l m x)) ∧ w' = w := by
  have h := within_any l m (some ⟨b, 0, none⟩) [x] 1 w (fun _ => ⟨b, 0, rfl, World.block_lt_of_cell? w _ hc, fun i hi => by
    have : i = 0 := by simp at hi; omega
    subst this
    exact hc⟩) (by simp)
  simpa [allIn, inB] using h
theorem one_new (w : World) (x : Value) (t : TypeId) : (w.alloc (.cells #[x] t)).cell? ⟨w.heap.size, 0, none⟩ = some x := cell_of (alNew rfl)
theorem within_new (l m x : Int) (b : Nat) (w : World) (t : TypeId) (hb : b = w.heap.size) :
    Calls Try.prog 51 #[.int .i64 l, .int .i64 m, .slice (some ⟨b, 0, none⟩) 1 1] (w.alloc (.cells #[.int .i64 x] t)) fun e w' => e = .returned (.bool (inB l m x)) ∧ w' = w.alloc (.cells #[.int .i64 x] t) :=
  within1 l m x _ _ (by rw [hb]; exact one_new _ _ _)

end Go.Proofs.Ytjggnhcdnfmmeaa
