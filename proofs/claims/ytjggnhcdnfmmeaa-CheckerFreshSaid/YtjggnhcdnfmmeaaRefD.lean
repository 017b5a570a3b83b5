/- What this text holds: what a word tells a walk, by the document: weakly. No condition. -/
import Derived.Test.YtjggnhcdnfmmeaaRefC
namespace Go.Proofs.Ytjggnhcdnfmmeaa
open Go.RowKit

theorem groups_some (n : Nat) (w : World) (h : n ≤ 16) : Calls Try.prog 62 #[.int .i64 n] w fun e w' => e = .returned (.int .i64 ((n + 3) / 4 : Nat)) ∧ w' = w := by
  generalize hq : (n + 3) / 4 = q
  have h4 : q ≤ 4 := by omega
  go_enter Try.func62, Try.ntmps62
  go_wp2
  go_loopg [3] q (fun g s3 wr => ∃ k : Nat, k + g = q ∧ s3 = .int .i64 k ∧ wr = w)
  case atStart => exact ⟨0, by omega, rfl, rfl⟩
  case round =>
    obtain ⟨k, hk, rfl, rfl⟩ := hrel
    by_cases hl : k < q
    · have e0 : decide ((k : Int) * 4 < (n : Int)) = true := by simp; omega
      go_wp2
      go_roundg (q - (k + 1))
      case measure => omega
      case rel => exact ⟨k + 1, by omega, by go_num, rfl⟩
    · have e0 : decide ((k : Int) * 4 < (n : Int)) = false := by simp; omega
      have hkn : k = q := by omega
      have hk4 : k ≤ 4 := by omega
      have HK := Lib.hid hkn
      clear hk hl hkn
      go_wp2
      go_ret
      exact ⟨ret_int (by rw [HK.out]), rfl⟩

set_option maxRecDepth 100000 in
set_option maxHeartbeats 2000000 in
theorem step_any (n : Nat) (g x y : Int) (w : World) (h : n ≤ 16) : Calls Try.prog 53 #[.int .i64 n, .int .i64 g, .int .i64 x, .int .i64 y] w fun e w' => (∃ (a b o : Int) (l : Bool), e = .returned (.tuple #[.int .i64 a, .int .i64 b, .agg #[.int .i64 o, .bool l]])) ∧ Below w.heap.size w w' := by
  go_enter Try.func53, Try.ntmps53
  go_wp2_with fail
  refine (groups_some n _ h).mono ?_
  rintro e w1 ⟨rfl, rfl⟩
  obtain ⟨q, hq⟩ : ∃ q, q = (n + 3) / 4 := ⟨_, rfl⟩
  rw [← hq]
  clear hq
  obtain ⟨W, hW⟩ : ∃ W, W = w.alloc (.cells #[.int .i64 0, .bool false] 116) := ⟨_, rfl⟩
  have hbl : W.heap[w.heap.size]? = some (.cells #[.int .i64 0, .bool false] 116 (0, 0)) := by rw [hW]; exact alNew rfl
  have hbw : Below w.heap.size w W := by rw [hW]; exact ext_alloc _ (Below.refl _ _)
  rw [← hW]
  have k0 : W.cell? ⟨w.heap.size, 0, none⟩ = some (.int .i64 0) := by simp [World.cell?, hbl]
  have k1 : W.cell? ⟨w.heap.size, 1, none⟩ = some (.bool false) := by simp [World.cell?, hbl]
  have kl := lt_of hbl
  have kf : ∀ i, W.frozen? ⟨w.heap.size, i, none⟩ = false := fun i => by simp [World.frozen?, hbl]
  have fin2 : ∀ (u v : Value), Hid (Below w.heap.size w ((W.setCell ⟨w.heap.size, 0, none⟩ u).setCell ⟨w.heap.size, 1, none⟩ v)) := fun u v => Lib.hid ((hbw.setCell (p := ⟨w.heap.size, 0, none⟩) (Nat.le_refl _) u).setCell (p := ⟨w.heap.size, 1, none⟩) (Nat.le_refl _) v)
  have FIN := Lib.hid fin2
  have E0 : ∀ u, (W.setCell ⟨w.heap.size, 0, none⟩ u).cell? ⟨w.heap.size, 0, none⟩ = some u := fun u => by
    have := Joins.block_setCell (i := 0) hbl u
    simp [World.cell?, this]
  have E1 : ∀ u v, ((W.setCell ⟨w.heap.size, 0, none⟩ u).setCell ⟨w.heap.size, 1, none⟩ v).cell? ⟨w.heap.size, 1, none⟩ = some v := fun u v => by
    have := Joins.block_setCell (i := 1) (Joins.block_setCell (i := 0) hbl u) v
    simp [World.cell?, this]
  clear hW hbl hbw fin2
  cases h1 : (x == wrap64 (g.tdiv 4))
  · go_wp2_with fail
    go_loopg [13] 5 (fun g5 s5 wr => ∃ k : Nat, k + g5 = 5 ∧ s5 = .int .i64 k ∧ wr = W)
    case atStart => exact ⟨0, by omega, rfl, rfl⟩
    case round =>
      obtain ⟨k, hk, rfl, rfl⟩ := hrel
      by_cases hlt : k < 5
      · have ek : decide ((k : Int) ≤ 4) = true := by simp; omega
        cases h2 : (y == (k : Int))
        · cases h3 : (y == (k : Int) + 8)
          · go_wp2_with fail
            go_roundg (5 - (k + 1))
            case measure => omega
            case rel => exact ⟨k + 1, by omega, by go_num, rfl⟩
          · go_wp2_with fail
            (try simp only [Exit.inBlock, Exit.then]); refine bodyPost_ret (by simp [results, Try.results53, go_sem, E0, E1]; try rfl) rfl ?_
            exact ⟨⟨_, _, _, _, rfl⟩, (FIN.out _ _).out⟩
        · go_wp2_with fail
          (try simp only [Exit.inBlock, Exit.then]); refine bodyPost_ret (by simp [results, Try.results53, go_sem, E0, E1]; try rfl) rfl ?_
          exact ⟨⟨_, _, _, _, rfl⟩, (FIN.out _ _).out⟩
      · have ek : decide ((k : Int) ≤ 4) = false := by simp; omega
        go_wp2_with fail
        (try simp only [Exit.inBlock, Exit.then]); refine bodyPost_ret (by simp [results, Try.results53, go_sem, E0, E1]; try rfl) rfl ?_
        exact ⟨⟨_, _, _, _, rfl⟩, (FIN.out _ _).out⟩
  · go_wp2_with fail
    go_loopg [12] 5 (fun g5 s5 wr => ∃ k : Nat, k + g5 = 5 ∧ s5 = .int .i64 k ∧ wr = W)
    case atStart => exact ⟨0, by omega, rfl, rfl⟩
    case round =>
      obtain ⟨k, hk, rfl, rfl⟩ := hrel
      by_cases hlt : k < 5
      · have ek : decide ((k : Int) ≤ 4) = true := by simp; omega
        cases h2 : (y == 4 * (k : Int))
        · go_wp2_with fail
          go_roundg (5 - (k + 1))
          case measure => omega
          case rel => exact ⟨k + 1, by omega, by go_num, rfl⟩
        · go_wp2_with fail
          (try simp only [Exit.inBlock, Exit.then]); refine bodyPost_ret (by simp [results, Try.results53, go_sem, E0, E1]; try rfl) rfl ?_
          exact ⟨⟨_, _, _, _, rfl⟩, (FIN.out _ _).out⟩
      · have ek : decide ((k : Int) ≤ 4) = false := by simp; omega
        go_wp2_with fail
        all_goals
          (try simp only [Exit.inBlock, Exit.then]); refine bodyPost_ret (by simp [results, Try.results53, go_sem, E0, E1]; try rfl) rfl ?_
          exact ⟨⟨_, _, _, _, rfl⟩, (FIN.out _ _).out⟩

end Go.Proofs.Ytjggnhcdnfmmeaa
