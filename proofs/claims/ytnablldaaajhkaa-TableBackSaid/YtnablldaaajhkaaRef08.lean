/- What this text holds: the document's answer for the table: groups, plain ones, words. No condition. -/
import Derived.Test.YtnablldaaajhkaaTblA
namespace Go.Proofs.Ytnablldaaajhkaa
open Go.RowKit

theorem info_entry8 : (Try.prog.info? 93).map (fun i => (i.zero, i.size, i.bytes)) = some (some (.agg #[.int .i64 0, .bool false]), 2, 16) := by kernel_rfl

/-- A row of the document's entries lies in memory. -/
structure Rb (w : World) (b : Nat) (es : List En) : Prop where
  lt : b < w.heap.size
  go : ∀ i, i < es.length → w.cell? ⟨b, i * 2, none⟩ = some (.int .i64 (atE es i).1)
  gb : ∀ i, i < es.length → w.cell? ⟨b, i * 2 + 1, none⟩ = some (.bool (atE es i).2)
  gf : ∀ i, w.frozen? ⟨b, i, none⟩ = false
theorem Rb.of_block {w w' : World} {b : Nat} {es : List En} (h : Rb w b es) (hs : w.heap.size ≤ w'.heap.size) (hb : w'.heap[b]? = w.heap[b]?) : Rb w' b es :=
  ⟨Nat.lt_of_lt_of_le h.lt hs, fun i hi => (World.cell?_of_block (a := ⟨b, i * 2, none⟩) hb).trans (h.go i hi), fun i hi => (World.cell?_of_block (a := ⟨b, i * 2 + 1, none⟩) hb).trans (h.gb i hi), fun i => (World.frozen?_of_block (a := ⟨b, i, none⟩) hb).trans (h.gf i)⟩
theorem Rb.ext {w w' : World} {b : Nat} {es : List En} (hb : Below w.heap.size w w') (h : Rb w b es) : Rb w' b es := h.of_block hb.size (hb.block b h.lt)
theorem Rb.grown {w w' : World} {b : Nat} {es : List En} {row : Option Nat} (h : Rb w b es) (hg : w.grownBy w' row) (hn : some b ≠ row) : Rb w' b es := h.of_block hg.size (hg.block b h.lt hn)

theorem groups_any (n : Nat) (w : World) (h : n ≤ 16) : Calls Try.prog 51 #[.int .i64 n] w fun e w' => e = .returned (.int .i64 (ngr n : Nat)) ∧ w' = w := by
  have h4 : ngr n ≤ 4 := by unfold ngr; omega
  go_enter Try.func51, Try.ntmps51
  go_wp2
  go_loopg [3] (ngr n) (fun g s3 wr => ∃ k : Nat, k + g = ngr n ∧ s3 = .int .i64 k ∧ wr = w)
  case atStart => exact ⟨0, by omega, rfl, rfl⟩
  case round =>
    obtain ⟨k, hk, rfl, rfl⟩ := hrel
    by_cases hl : k < ngr n
    · have e0 : decide ((k : Int) * 4 < (n : Int)) = true := by simp; unfold ngr at hl; omega
      go_wp2
      go_roundg (ngr n - (k + 1))
      case measure => omega
      case rel => exact ⟨k + 1, by omega, by go_num, rfl⟩
    · have e0 : decide ((k : Int) * 4 < (n : Int)) = false := by simp; unfold ngr at hl; omega
      have hkn : k = ngr n := by omega
      have hk4 : k ≤ 4 := by omega
      have HK := Lib.hid hkn
      clear hk hl hkn
      go_wp2
      go_ret
      exact ⟨ret_int (by rw [HK.out]), rfl⟩

theorem ok_no {es : List En} {i j : Nat} (hj : j < 4) (hl : 4 * i + j < es.length) (h : ((atE es (4 * i + j)) == ((atE es (4 * i)).1, false)) = false) : grpOk es i = false := by
  unfold grpOk
  rw [List.all_eq_false]
  refine ⟨atE es (4 * i + j), ?_, by simpa using h⟩
  rw [← atE_get hl]
  exact List.mem_iff_getElem.2 ⟨j, by simp; omega, by simp⟩
theorem ok_yes {es : List En} {i m : Nat} (hm : m = 4 ∨ (m = es.length - 4 * i ∧ m ≤ 4)) (h : ((es.drop (4 * i)).take m).all (fun x => x == ((atE es (4 * i)).1, false)) = true) : grpOk es i = true := by
  unfold grpOk
  rcases hm with rfl | ⟨rfl, h4⟩
  · exact h
  · rw [List.take_of_length_le (by simp; omega)]
    rw [List.take_of_length_le (by simp)] at h
    exact h

set_option maxRecDepth 100000 in
theorem plain_any (b cap : Nat) (es : List En) (i : Nat) (w : World) (h : Rb w b es) (hn : es.length ≤ 16) (hi : i < ngr es.length) :
    Calls Try.prog 53 #[.slice (some ⟨b, 0, none⟩) es.length cap, .int .i64 i] w fun e w' => e = .returned (.bool (grpOk es i)) ∧ Below w.heap.size w w' := by
  have hf : 4 * i < es.length := by unfold ngr at hi; omega
  have hlt := h.lt
  have H := Lib.hid h
  clear h
  obtain ⟨M, hM⟩ : ∃ M, M = 4 ∧ 4 * i + 4 ≤ es.length ∨ M = es.length - 4 * i ∧ es.length < 4 * i + 4 := by
    by_cases h4 : 4 * i + 4 ≤ es.length
    · exact ⟨4, .inl ⟨rfl, h4⟩⟩
    · exact ⟨_, .inr ⟨rfl, by omega⟩⟩
  go_enter Try.func53, Try.ntmps53
  go_wp2
  go_loopg [5] M (fun g2 s5 wr => ∃ j : Nat, j + g2 = M ∧ s5 = .int .i64 (4 * i + j) ∧ Hid (((es.drop (4 * i)).take j).all (fun x => x == ((atE es (4 * i)).1, false)) = true) ∧ Hid (Below w.heap.size w wr))
  case atStart => exact ⟨0, by omega, by simp, by show _ = _; simp, Below.refl _ _⟩
  case round =>
    obtain ⟨j, hj, rfl, HA, HB⟩ := hrel
    have hs := HB.out.size
    have hltr : b < wr.heap.size := by omega
    have z0 := (HB.out.cell (p := ⟨b, 4 * i * 2, none⟩) hlt).trans (H.out.go (4 * i) hf)
    by_cases hjM : j < M
    · have hl : 4 * i + j < es.length := by rcases hM with h | h <;> omega
      have hj4 : j < 4 := by rcases hM with h | h <;> omega
      have x0 := (HB.out.cell (p := ⟨b, (4 * i + j) * 2, none⟩) hlt).trans (H.out.go (4 * i + j) hl)
      have x1 := (HB.out.cell (p := ⟨b, (4 * i + j) * 2 + 1, none⟩) hlt).trans (H.out.gb (4 * i + j) hl)
      have e1 : decide ((4 : Int) * i + j < 4 * i + 4) = true := by simp; omega
      have e2 : decide ((4 : Int) * i + j < es.length) = true := by simp; omega
      clear hM
      cases hb : (atE es (4 * i + j)).2
      · rw [hb] at x1
        cases hq : ((atE es (4 * i + j)).1 != (atE es (4 * i)).1)
        · have HQ : Hid ((atE es (4 * i + j) == ((atE es (4 * i)).1, false)) = true) := by
            show _ = _
            simp only [beq_iff_eq]
            exact Prod.ext (by simpa using hq) hb
          clear hb
          go_wp2_with fail
          go_region
          all_goals (try go_wp2)
          go_roundg (M - (j + 1))
          case measure => omega
          case rel => exact ⟨j + 1, by omega, by go_num, all_next HA.out hl HQ.out, HB.out.drew⟩
        · have HQ : Hid ((atE es (4 * i + j) == ((atE es (4 * i)).1, false)) = false) := by
            show _ = _
            simp only [beq_eq_false_iff_ne, ne_eq]
            intro h
            rw [h] at hq
            simp at hq
          clear hb
          go_wp2_with fail
          go_region
          all_goals (try go_wp2)
          go_ret
          exact ⟨ret_bool (by rw [ok_no hj4 hl HQ.out]), HB.out.drew⟩
      · rw [hb] at x1
        have HQ : Hid ((atE es (4 * i + j) == ((atE es (4 * i)).1, false)) = false) := by
          show _ = _
          simp only [beq_eq_false_iff_ne, ne_eq]
          intro h
          rw [h] at hb
          simp at hb
        clear hb
        go_wp2_with fail
        go_region
        all_goals (try go_wp2)
        go_ret
        exact ⟨ret_bool (by rw [ok_no hj4 hl HQ.out]), HB.out.drew⟩
    · have hM4 : M ≤ 4 := by omega
      have HJ : Hid (j = M) := Lib.hid (by omega)
      have hj4 : j ≤ 4 := by omega
      have HM := Lib.hid hM
      have HZ : Hid (grpOk es i = true) := by
        show _ = _
        have h1 := HA.out
        have h2 := HJ.out
        refine ok_yes (m := j) ?_ h1
        rcases HM.out with ⟨h, _⟩ | ⟨h, _⟩
        · exact .inl (by omega)
        · exact .inr ⟨by omega, by omega⟩
      by_cases h4 : 4 * i + 4 ≤ es.length
      · have e1 : decide ((j : Int) < 4) = false := by
          have := HJ.out
          have := HM.out
          simp
          omega
        clear hM hj hjM
        go_wp2_with fail
        go_ret
        exact ⟨ret_bool (by rw [HZ.out]), HB.out⟩
      · have e1 : decide ((j : Int) < 4) = true := by
          have := HJ.out
          have := HM.out
          simp
          omega
        have e2 : decide ((4 : Int) * i + j < es.length) = false := by
          have := HJ.out
          have := HM.out
          simp
          omega
        clear hM hj hjM
        go_wp2_with fail
        go_ret
        exact ⟨ret_bool (by rw [HZ.out]), HB.out⟩

end Go.Proofs.Ytnablldaaajhkaa
