/- What this text holds: which state a grant brings, and which states fit, as counts. Condition: the table of states holds what its initialiser lays. -/
import Derived.Test.YtkfnjpmigifomaaDoorMoesi2
namespace Go.Proofs.YtkfnjpmigifomaaDoor
open Go.RowKit

/-- Which state a grant brings, and its error. -/
def grA (kind : Int) (xs : List Int) : Int := if kind ≠ 1 ∧ kind ≠ 2 then 0 else if xs.all isB = false then 0 else if (kind = 1 ∧ 0 < xs.countP stB) ∨ (kind = 2 ∧ 0 < xs.countP vB) then 0 else if kind = 2 then 4 else if xs.countP vB = 0 then 2 else 1
def grE (kind : Int) (xs : List Int) : Int := if kind ≠ 1 ∧ kind ≠ 2 then 15 else if xs.all isB = false then 10 else if (kind = 1 ∧ 0 < xs.countP stB) ∨ (kind = 2 ∧ 0 < xs.countP vB) then 16 else 0

theorem granted_kind (kind : Int) (A : Option Addr) (n cap : Nat) (xs : List Int) (w : World) (h1 : (kind == 1) = false) (h2 : (kind == 2) = false) :
    Calls Tryd.prog 88 #[.int .i64 kind, .slice A n cap] w fun e w' => e = .returned (.tuple #[.int .i64 (grA kind xs), .int .i64 (grE kind xs)]) ∧ w = w' := by
  have h1' : (kind != 1) = true := by simp [bne, h1]
  have h2' : (kind != 2) = true := by simp [bne, h2]
  have ha : grA kind xs = 0 := by unfold grA; rw [if_pos ⟨by simpa using h1, by simpa using h2⟩]
  have he : grE kind xs = 15 := by unfold grE; rw [if_pos ⟨by simpa using h1, by simpa using h2⟩]
  go_enter Tryd.func88, Tryd.ntmps88
  go_wp2
  go_ret2
  exact ⟨ret_two ha.symm he.symm, rfl⟩

set_option maxHeartbeats 1000000 in
theorem granted_any (kind : Int) (A : Option Addr) (cap : Nat) (xs : List Int) (w : World) (hR : Rws w) (hx : SlI w A xs) (hm : xs.length ≤ maxLen) (hk : kind = 1 ∨ kind = 2) :
    Calls Tryd.prog 88 #[.int .i64 kind, .slice A xs.length cap] w fun e w' => e = .returned (.tuple #[.int .i64 (grA kind xs), .int .i64 (grE kind xs)]) ∧ w = w' := by
  unfold maxLen at hm
  have HX := Lib.hid hx
  clear hx
  rcases hk with rfl | rfl
  · go_enter Tryd.func88, Tryd.ntmps88
    go_wp2
    go_loopg [6, 7, 18] xs.length (fun m v s i wr => ∃ k : Nat, k ≤ xs.length ∧ m = xs.length - k ∧ wr = w ∧ i = .int .i64 k ∧ v = .int .i64 ((xs.take k).countP vB : Nat) ∧ s = .int .i64 ((xs.take k).countP stB : Nat) ∧ (xs.take k).all isB = true)
    case atStart => exact ⟨0, by omega, rfl, rfl, rfl, by simp, by simp, by simp⟩
    case round =>
      obtain ⟨k, hk, rfl, rfl, rfl, rfl, rfl, ha⟩ := hrel
      have HA := Lib.hid ha
      clear ha
      have c1 : (xs.take k).countP vB ≤ k := countP_take_le
      have c2 : (xs.take k).countP stB ≤ k := countP_take_le
      by_cases hlt : k < xs.length
      · obtain ⟨b, off, rfl, _, hc⟩ := HX.out (by omega)
        have hc1 := hc k hlt
        have s1 := Lib.hid (countP_take (p := vB) hlt)
        have s2 := Lib.hid (countP_take (p := stB) hlt)
        have s3 := Lib.hid (all_take (p := isB) hlt)
        have s4 := Lib.hid (fun h => all_get (p := isB) hlt h)
        clear hc
        generalize xs[k]?.getD 0 = x at hc1 s1 s2 s3 s4
        by_cases hb : isB x = true
        · cases hv : vB x <;> cases hs : stB x
          all_goals
            go_wp2_with (first | (go_at_call 85; refine (is_any _ _).mono ?_; rintro e w' ⟨rfl, rfl⟩) | (go_at_call 44; refine (valid_any _ _ hR).mono ?_; rintro e w' ⟨rfl, rfl⟩) | (go_at_call 47; refine (store_any _ _ hR).mono ?_; rintro e w' ⟨rfl, rfl⟩))
            go_roundg (xs.length - (k + 1))
            case measure => omega
            case rel => exact ⟨k + 1, by omega, rfl, rfl, by go_num, by rw [s1.out]; simp [hv], by rw [s2.out]; simp [hs], by rw [s3.out, HA.out, hb]; rfl⟩
        · have hb' : isB x = false := by simpa using hb
          have hall := Lib.hid (s4.out hb')
          clear hb
          go_wp2_with (go_at_call 85; refine (is_any _ _).mono ?_; rintro e w' ⟨rfl, rfl⟩)
          go_ret2
          exact ⟨ret_two (by simp [grA, hall.out]) (by simp [grE, hall.out]), rfl⟩
      · obtain rfl : k = xs.length := by omega
        have ht : xs.take xs.length = xs := List.take_length
        have ha := HA.out
        rw [ht] at ha
        rw [ht]
        rw [ht] at c1 c2
        have HA2 := Lib.hid ha
        clear ha HA ht
        generalize hv : xs.countP vB = nv at c1 ⊢
        generalize hs : xs.countP stB = ns at c2 ⊢
        have HV := Lib.hid hv
        have HS := Lib.hid hs
        clear hv hs
        go_wp2
        all_goals
          go_ret2
          have ha := HA2.out
          refine ⟨ret_two ?_ ?_, rfl⟩
          · simp only [grA, ha, HV.out, HS.out]; first | (simp; done) | (simp <;> omega) | ((repeat' split) <;> first | omega | (simp_all; done) | (simp_all; omega))
          · simp only [grE, ha, HV.out, HS.out]; first | (simp; done) | (simp <;> omega) | ((repeat' split) <;> first | omega | (simp_all; done) | (simp_all; omega))
  · go_enter Tryd.func88, Tryd.ntmps88
    go_wp2
    go_loopg [6, 7, 18] xs.length (fun m v s i wr => ∃ k : Nat, k ≤ xs.length ∧ m = xs.length - k ∧ wr = w ∧ i = .int .i64 k ∧ v = .int .i64 ((xs.take k).countP vB : Nat) ∧ s = .int .i64 ((xs.take k).countP stB : Nat) ∧ (xs.take k).all isB = true)
    case atStart => exact ⟨0, by omega, rfl, rfl, rfl, by simp, by simp, by simp⟩
    case round =>
      obtain ⟨k, hk, rfl, rfl, rfl, rfl, rfl, ha⟩ := hrel
      have HA := Lib.hid ha
      clear ha
      have c1 : (xs.take k).countP vB ≤ k := countP_take_le
      have c2 : (xs.take k).countP stB ≤ k := countP_take_le
      by_cases hlt : k < xs.length
      · obtain ⟨b, off, rfl, _, hc⟩ := HX.out (by omega)
        have hc1 := hc k hlt
        have s1 := Lib.hid (countP_take (p := vB) hlt)
        have s2 := Lib.hid (countP_take (p := stB) hlt)
        have s3 := Lib.hid (all_take (p := isB) hlt)
        have s4 := Lib.hid (fun h => all_get (p := isB) hlt h)
        clear hc
        generalize xs[k]?.getD 0 = x at hc1 s1 s2 s3 s4
        by_cases hb : isB x = true
        · cases hv : vB x <;> cases hs : stB x
          all_goals
            go_wp2_with (first | (go_at_call 85; refine (is_any _ _).mono ?_; rintro e w' ⟨rfl, rfl⟩) | (go_at_call 44; refine (valid_any _ _ hR).mono ?_; rintro e w' ⟨rfl, rfl⟩) | (go_at_call 47; refine (store_any _ _ hR).mono ?_; rintro e w' ⟨rfl, rfl⟩))
            go_roundg (xs.length - (k + 1))
            case measure => omega
            case rel => exact ⟨k + 1, by omega, rfl, rfl, by go_num, by rw [s1.out]; simp [hv], by rw [s2.out]; simp [hs], by rw [s3.out, HA.out, hb]; rfl⟩
        · have hb' : isB x = false := by simpa using hb
          have hall := Lib.hid (s4.out hb')
          clear hb
          go_wp2_with (go_at_call 85; refine (is_any _ _).mono ?_; rintro e w' ⟨rfl, rfl⟩)
          go_ret2
          exact ⟨ret_two (by simp [grA, hall.out]) (by simp [grE, hall.out]), rfl⟩
      · obtain rfl : k = xs.length := by omega
        have ht : xs.take xs.length = xs := List.take_length
        have ha := HA.out
        rw [ht] at ha
        rw [ht]
        rw [ht] at c1 c2
        have HA2 := Lib.hid ha
        clear ha HA ht
        generalize hv : xs.countP vB = nv at c1 ⊢
        generalize hs : xs.countP stB = ns at c2 ⊢
        have HV := Lib.hid hv
        have HS := Lib.hid hs
        clear hv hs
        go_wp2
        all_goals
          go_ret2
          have ha := HA2.out
          refine ⟨ret_two ?_ ?_, rfl⟩
          · simp only [grA, ha, HV.out, HS.out]; first | (simp; done) | (simp <;> omega) | ((repeat' split) <;> first | omega | (simp_all; done) | (simp_all; omega))
          · simp only [grE, ha, HV.out, HS.out]; first | (simp; done) | (simp <;> omega) | ((repeat' split) <;> first | omega | (simp_all; done) | (simp_all; omega))

end Go.Proofs.YtkfnjpmigifomaaDoor
