/- What this text holds: the walk of the law MoesiKeeps. Condition: the table of states holds what its initialiser lays. -/
import Derived.Test.YtnbdaffbmpbfjaaDoorLaw06
import Derived.Test.YtnbdaffbmpbfjaaDoorPl06
import Derived.Test.YtnbdaffbmpbfjaaDoorOwn2
namespace Go.Proofs.YtnbdaffbmpbfjaaDoor
open Go.RowKit

theorem who_k (who : Int) (n : Nat) (h : 0 < n) : ∃ j : Nat, j < n ∧ (Int.tmod who n + n).tmod n = j := by
  have h1 : -(n : Int) < Int.tmod who n := Int.lt_tmod_of_pos who (by omega)
  have h2 : 0 ≤ (Int.tmod who n + n).tmod n := Int.tmod_nonneg _ (by omega)
  have h3 : (Int.tmod who n + n).tmod n < n := Int.tmod_lt_of_pos _ (by omega)
  exact ⟨((Int.tmod who n + n).tmod n).toNat, by omega, by omega⟩

set_option maxRecDepth 100000 in
set_option maxHeartbeats 1000000 in
theorem keeps_many (A : Option Addr) (n cap : Nat) (who : Int) (b : Bool) (w : World) (hR : Rws w) (hn : 20 < n) :
    Calls Tryd.prog 10 #[.slice A n cap, .int .i64 who, .bool b] w fun e w' => e = .returned (.bool true) ∧ Below w.heap.size w w' := by
  go_enter Tryd.func10, Tryd.ntmps10
  go_wp2_with fail
  refine (awake06 _ hR).mono ?_; rintro e w1 ⟨rfl, hb1⟩
  go_wp2
  go_ret
  exact ⟨rfl, (by repeat (with_reducible first | exact Below.refl _ _ | assumption | (refine ext_next (by assumption) ?_) | apply ext_alloc | apply ext_past | apply ext_drew | apply ext_drewN))⟩

set_option maxRecDepth 100000 in
set_option maxHeartbeats 1000000 in
theorem keeps_none (A : Option Addr) (cap : Nat) (who : Int) (b : Bool) (w : World) (hR : Rws w) :
    Calls Tryd.prog 10 #[.slice A 0 cap, .int .i64 who, .bool b] w fun e w' => e = .returned (.bool true) ∧ Below w.heap.size w w' := by
  go_enter Tryd.func10, Tryd.ntmps10
  go_wp2_with fail
  refine (awake06 _ hR).mono ?_; rintro e w1 ⟨rfl, hb1⟩
  go_wp2
  go_ret
  exact ⟨rfl, (by repeat (with_reducible first | exact Below.refl _ _ | assumption | (refine ext_next (by assumption) ?_) | apply ext_alloc | apply ext_past | apply ext_drew | apply ext_drewN))⟩

set_option maxRecDepth 100000 in
set_option maxHeartbeats 1000000 in
theorem keeps_unfit (A : Option Addr) (cap : Nat) (xs : List Int) (who : Int) (b : Bool) (w : World) (hR : Rws w) (hx : SlI w A xs) (hn : xs.length ≤ 20) (h0 : 0 < xs.length) (hf : fitB xs = false) :
    Calls Tryd.prog 10 #[.slice A xs.length cap, .int .i64 who, .bool b] w fun e w' => e = .returned (.bool true) ∧ Below w.heap.size w w' := by
  have e0 : ((xs.length : Int) == 0) = false := by simp; intro h; simp [h] at h0
  have hne : xs ≠ [] := by intro h; simp [h] at h0
  have HX := Lib.hid hx
  have HF := Lib.hid hf
  clear hx hf
  go_enter Tryd.func10, Tryd.ntmps10
  go_wp2_with fail
  refine (fit_any A cap xs _ hR HX.out (by unfold maxLen; omega)).mono ?_; rintro e w' ⟨rfl, rfl⟩
  rw [HF.out]
  go_wp2_with fail
  refine (awake06 _ hR).mono ?_; rintro e w1 ⟨rfl, hb1⟩
  go_wp2
  go_ret
  exact ⟨rfl, (by repeat (with_reducible first | exact Below.refl _ _ | assumption | (refine ext_next (by assumption) ?_) | apply ext_alloc | apply ext_past | apply ext_drew | apply ext_drewN))⟩

set_option maxRecDepth 100000 in
set_option maxHeartbeats 8000000 in
theorem keeps_read (A : Option Addr) (cap : Nat) (xs : List Int) (who : Int) (w : World) (hR : Rws w) (hx : SlI w A xs) (hn : xs.length ≤ 20) (h0 : 0 < xs.length) (hf : fitB xs = true)
    (j : Nat) (hj : j < xs.length) (hw : (Int.tmod who xs.length + xs.length).tmod xs.length = j) :
    Calls Tryd.prog 10 #[.slice A xs.length cap, .int .i64 who, .bool false] w fun e w' => e = .returned (.bool true) ∧ Below w.heap.size w w' := by
  have e0 : ((xs.length : Int) == 0) = false := by simp; intro h; simp [h] at h0
  have hne : xs ≠ [] := by intro h; simp [h] at h0
  have HF := Lib.hid hf
  have hm1 : -(xs.length : Int) < Int.tmod who xs.length := Int.lt_tmod_of_pos who (by omega)
  have hm2 : Int.tmod who xs.length < xs.length := Int.tmod_lt_of_pos who (by omega)
  obtain ⟨b, off, rfl, hbl, hc⟩ := hx h0
  have HX := Lib.hid hx
  have HC := Lib.hid hc
  clear hx hf hc
  obtain ⟨i0, hi, hz, hz1, hz2⟩ := info_parts info_int
  have HI := Lib.hid hi
  have HZ := Lib.hid hz
  have HZ1 := Lib.hid hz1
  have HZ2 := Lib.hid hz2
  clear hi hz hz1 hz2
  go_enter Tryd.func10, Tryd.ntmps10
  go_wp2_with fail
  refine (fit_any _ cap xs _ hR HX.out (by unfold maxLen; omega)).mono ?_; rintro e w' ⟨rfl, rfl⟩
  rw [HF.out]
  go_wp2
  go_loopg [10, 11, 12, 13] xs.length (fun m o t d i wr => ∃ k : Nat, k ≤ xs.length ∧ m = xs.length - k ∧ i = .int .i64 k ∧ t = .int .i64 (((xs.take k).eraseIdx j).countP owB : Nat) ∧ d = .int .i64 (((xs.take k).eraseIdx j).countP (lostB 1) : Nat) ∧
    wr.ownsRow w.heap.size 3 1 o (othL 1 j (xs.take k)).length ((othL 1 j (xs.take k)).map (Value.int .i64)) ∧ Below w.heap.size w wr)
  case atStart => exact ⟨0, by omega, rfl, rfl, by simp, by simp, by simpa [othL] using World.ownsRow_nil _ _ _ _, Below.refl _ _⟩
  case round =>
    obtain ⟨k, hk, rfl, rfl, rfl, rfl, hown, hb⟩ := hrel
    have HW := Lib.hid hown
    clear hown
    have hRw : Rws wr := hR.ext hb
    by_cases hlt : k < xs.length
    · by_cases hkj : k = j
      · subst hkj
        have s1 := Lib.hid (cnt_eq (p := owB) hj)
        have s2 := Lib.hid (cnt_eq (p := lostB 1) hj)
        have s3 := Lib.hid (oth_eq (to := 1) hj)
        generalize ((xs.take k).eraseIdx k).countP owB = nt at s1 ⊢
        generalize ((xs.take k).eraseIdx k).countP (lostB 1) = nd at s2 ⊢
        go_wp2
        go_roundg (xs.length - (k + 1))
        case measure => omega
        case rel => exact ⟨k + 1, by omega, rfl, by go_num, by rw [s1.out], by rw [s2.out], by rw [s3.out]; exact HW.out, hb⟩
      · have hq : ((k : Int) == j) = false := by simp; omega
        have hcx := (hb.cell (p := ⟨b, off + k, none⟩) hbl).trans (HC.out k hlt)
        have s1 := Lib.hid (cnt_ne (p := owB) hlt hkj)
        have s2 := Lib.hid (cnt_ne (p := lostB 1) hlt hkj)
        have s3 := Lib.hid (oth_ne (to := 1) hlt hkj)
        have s4 := (fits_iff.1 HF.out).is (List.getElem_mem hlt)
        have s5 : xs[k] = xs[k]?.getD 0 := by rw [List.getElem?_eq_getElem hlt]; rfl
        have hol : (othL 1 j (xs.take k)).length ≤ 20 := by unfold othL; rw [List.length_map]; have := List.length_eraseIdx_le (xs.take k) j; have := List.length_take_le k xs; omega
        have hnt : ((xs.take k).eraseIdx j).countP owB ≤ 20 := by have := List.length_eraseIdx_le (xs.take k) j; have := List.length_take_le k xs; have := List.countP_le_length (p := owB) (l := (xs.take k).eraseIdx j); omega
        have hnd : ((xs.take k).eraseIdx j).countP (lostB 1) ≤ 20 := by have := List.length_eraseIdx_le (xs.take k) j; have := List.length_take_le k xs; have := List.countP_le_length (p := lostB 1) (l := (xs.take k).eraseIdx j); omega
        rw [s5] at s4
        clear s5
        generalize ((xs.take k).eraseIdx j).countP owB = nt at s1 hnt ⊢
        generalize ((xs.take k).eraseIdx j).countP (lostB 1) = nd at s2 hnd ⊢
        generalize xs[k]?.getD 0 = x at hcx s1 s2 s3 s4
        have s6 : x = 0 ∨ x = 1 ∨ x = 2 ∨ x = 3 ∨ x = 4 := by omega
        clear s4
        rcases s6 with rfl | rfl | rfl | rfl | rfl
        · have hcx' : wr.cell? ⟨b, off + k, none⟩ = some (.int .i64 0) := hcx
          clear hcx
          go_wp2_with fail
          refine (probe_0_1 _ hRw).mono ?_; rintro e w' ⟨rfl, rfl⟩
          go_wp2_with (at_builtin; refine wpList_append_own _ rfl _ _ 50 rfl w.heap.size 3 i0 (.int .i64 0) 1 8 Tryd.underlying50 HI.out HZ.out HZ1.out HZ2.out rfl (by decide) _ _ _ rfl (HW.out.alloc _) ⟨wr.heap.size, 0, none⟩ 1 1 [.int .i64 0] rfl rfl ?c1 ?c2 (by unfold maxLen; omega) (by omega) ?c5 ?_)
          case c1 => exact one_at _ _ _
          case c2 => exact one_one _
          case c5 => have := hb.size; simp; omega
          · intro v' w1 hown hgrow hnil
            have hb' := below_grown ((hb.alloc hb.size _)) (HW.out.alloc _) (Nat.le_refl _) hgrow
            have hown' := own_more hown s3.out
            have HW' := Lib.hid hown'
            clear hown hgrow hnil hown' hb
            go_wp2
            go_roundg (xs.length - (k + 1))
            case measure => omega
            case rel => exact ⟨k + 1, by omega, rfl, by go_num, by rw [s1.out, if_neg (by decide)]; go_num, by rw [s2.out, if_neg (by decide)]; go_num, HW'.out, hb'⟩
        · have hcx' : wr.cell? ⟨b, off + k, none⟩ = some (.int .i64 1) := hcx
          clear hcx
          go_wp2_with fail
          refine (probe_1_1 _ hRw).mono ?_; rintro e w' ⟨rfl, rfl⟩
          go_wp2_with (at_builtin; refine wpList_append_own _ rfl _ _ 50 rfl w.heap.size 3 i0 (.int .i64 0) 1 8 Tryd.underlying50 HI.out HZ.out HZ1.out HZ2.out rfl (by decide) _ _ _ rfl (HW.out.alloc _) ⟨wr.heap.size, 0, none⟩ 1 1 [.int .i64 1] rfl rfl ?c1 ?c2 (by unfold maxLen; omega) (by omega) ?c5 ?_)
          case c1 => exact one_at _ _ _
          case c2 => exact one_one _
          case c5 => have := hb.size; simp; omega
          · intro v' w1 hown hgrow hnil
            have hb' := below_grown ((hb.alloc hb.size _)) (HW.out.alloc _) (Nat.le_refl _) hgrow
            have hown' := own_more hown s3.out
            have HW' := Lib.hid hown'
            clear hown hgrow hnil hown' hb
            go_wp2
            go_roundg (xs.length - (k + 1))
            case measure => omega
            case rel => exact ⟨k + 1, by omega, rfl, by go_num, by rw [s1.out, if_neg (by decide)]; go_num, by rw [s2.out, if_neg (by decide)]; go_num, HW'.out, hb'⟩
        · have hcx' : wr.cell? ⟨b, off + k, none⟩ = some (.int .i64 2) := hcx
          clear hcx
          go_wp2_with fail
          refine (probe_2_1 _ hRw).mono ?_; rintro e w' ⟨rfl, rfl⟩
          go_wp2_with (at_builtin; refine wpList_append_own _ rfl _ _ 50 rfl w.heap.size 3 i0 (.int .i64 0) 1 8 Tryd.underlying50 HI.out HZ.out HZ1.out HZ2.out rfl (by decide) _ _ _ rfl (HW.out.alloc _) ⟨wr.heap.size, 0, none⟩ 1 1 [.int .i64 1] rfl rfl ?c1 ?c2 (by unfold maxLen; omega) (by omega) ?c5 ?_)
          case c1 => exact one_at _ _ _
          case c2 => exact one_one _
          case c5 => have := hb.size; simp; omega
          · intro v' w1 hown hgrow hnil
            have hb' := below_grown ((hb.alloc hb.size _)) (HW.out.alloc _) (Nat.le_refl _) hgrow
            have hown' := own_more hown s3.out
            have HW' := Lib.hid hown'
            clear hown hgrow hnil hown' hb
            go_wp2
            go_roundg (xs.length - (k + 1))
            case measure => omega
            case rel => exact ⟨k + 1, by omega, rfl, by go_num, by rw [s1.out, if_pos (by decide)]; go_num, by rw [s2.out, if_neg (by decide)]; go_num, HW'.out, hb'⟩
        · have hcx' : wr.cell? ⟨b, off + k, none⟩ = some (.int .i64 3) := hcx
          clear hcx
          go_wp2_with fail
          refine (probe_3_1 _ hRw).mono ?_; rintro e w' ⟨rfl, rfl⟩
          have ed : dtB 3 = true := by decide
          go_wp2_with fail
          refine (dirty_3 _ hRw).mono ?_; rintro e w' ⟨rfl, rfl⟩
          rw [ed]
          go_wp2_with (at_builtin; refine wpList_append_own _ rfl _ _ 50 rfl w.heap.size 3 i0 (.int .i64 0) 1 8 Tryd.underlying50 HI.out HZ.out HZ1.out HZ2.out rfl (by decide) _ _ _ rfl (HW.out.alloc _) ⟨wr.heap.size, 0, none⟩ 1 1 [.int .i64 3] rfl rfl ?c1 ?c2 (by unfold maxLen; omega) (by omega) ?c5 ?_)
          case c1 => exact one_at _ _ _
          case c2 => exact one_one _
          case c5 => have := hb.size; simp; omega
          · intro v' w1 hown hgrow hnil
            have hb' := below_grown ((hb.alloc hb.size _)) (HW.out.alloc _) (Nat.le_refl _) hgrow
            have hown' := own_more hown s3.out
            have HW' := Lib.hid hown'
            clear hown hgrow hnil hown' hb
            go_wp2
            go_roundg (xs.length - (k + 1))
            case measure => omega
            case rel => exact ⟨k + 1, by omega, rfl, by go_num, by rw [s1.out, if_pos (by decide)]; go_num, by rw [s2.out, if_neg (by decide)]; go_num, HW'.out, hb'⟩
        · have hcx' : wr.cell? ⟨b, off + k, none⟩ = some (.int .i64 4) := hcx
          clear hcx
          go_wp2_with fail
          refine (probe_4_1 _ hRw).mono ?_; rintro e w' ⟨rfl, rfl⟩
          have ed : dtB 3 = true := by decide
          go_wp2_with fail
          refine (dirty_3 _ hRw).mono ?_; rintro e w' ⟨rfl, rfl⟩
          rw [ed]
          go_wp2_with (at_builtin; refine wpList_append_own _ rfl _ _ 50 rfl w.heap.size 3 i0 (.int .i64 0) 1 8 Tryd.underlying50 HI.out HZ.out HZ1.out HZ2.out rfl (by decide) _ _ _ rfl (HW.out.alloc _) ⟨wr.heap.size, 0, none⟩ 1 1 [.int .i64 3] rfl rfl ?c1 ?c2 (by unfold maxLen; omega) (by omega) ?c5 ?_)
          case c1 => exact one_at _ _ _
          case c2 => exact one_one _
          case c5 => have := hb.size; simp; omega
          · intro v' w1 hown hgrow hnil
            have hb' := below_grown ((hb.alloc hb.size _)) (HW.out.alloc _) (Nat.le_refl _) hgrow
            have hown' := own_more hown s3.out
            have HW' := Lib.hid hown'
            clear hown hgrow hnil hown' hb
            go_wp2
            go_roundg (xs.length - (k + 1))
            case measure => omega
            case rel => exact ⟨k + 1, by omega, rfl, by go_num, by rw [s1.out, if_pos (by decide)]; go_num, by rw [s2.out, if_neg (by decide)]; go_num, HW'.out, hb'⟩
    · have hkx : xs.take k = xs := by rw [show k = xs.length by omega]; exact List.take_length
      have hY := HW.out
      rw [hkx] at hY ⊢
      clear HW hkx
      obtain ⟨A', cap', rfl, hsl⟩ := own_sl hY
      have HY := Lib.hid hY
      have HS := Lib.hid hsl
      have t1 := (fits_iff.1 HF.out).told hj
      have d1 := (fits_iff.1 HF.out).lost hj 1
      rw [lost_none] at d1 ⊢
      have hol : (othL 1 j xs).length ≤ 20 := by unfold othL; rw [List.length_map]; have := List.length_eraseIdx_le xs j; omega
      generalize (xs.eraseIdx j).countP owB = nt at t1 ⊢
      generalize (xs.eraseIdx j).countP (lostB 1) = nd at d1 ⊢
      have G1 := Lib.hid (grant1 j xs).1
      have hcj := (hb.cell (p := ⟨b, off + j, none⟩) hbl).trans (HC.out j hj)
      generalize xs[j]?.getD 0 = y at hcj
      have G2 : Hid (grA 1 (othL 1 j xs) = 1 ∨ grA 1 (othL 1 j xs) = 2) := by
        have := (grant1 j xs).2
        split at this
        · exact .inr this
        · exact .inl this
      have KP := Lib.hid ((fits_iff.1 HF.out).keep1 hj)
      clear hY hsl
      generalize othL 1 j xs = ys at HY HS G1 G2 KP hol ⊢
      obtain rfl : k = xs.length := by omega
      go_wp2_with fail
      refine (granted_any 1 A' cap' ys _ hRw HS.out (by unfold maxLen; omega) (by omega)).mono ?_; rintro e w' ⟨rfl, rfl⟩
      rw [G1.out]
      rcases G2.out with g | g
      · rw [g] at KP ⊢
        clear g G2
        have e5 : vB 1 = true := by decide
        go_wp2_with fail
        refine (load_1 _ hRw).mono ?_; rintro e w' ⟨rfl, rfl⟩
        rw [e5]
        go_wp2_with fail
        refine (valid_any y _ hRw).mono ?_; rintro e w' ⟨rfl, rfl⟩
        cases hvy : vB y
        · clear hvy
          go_wp2_with (at_builtin; refine wpList_append_own _ rfl _ _ 50 rfl w.heap.size 3 i0 (.int .i64 0) 1 8 Tryd.underlying50 HI.out HZ.out HZ1.out HZ2.out rfl (by decide) _ _ _ rfl (HY.out.alloc _) ⟨wr.heap.size, 0, none⟩ 1 1 [.int .i64 1] rfl rfl ?c1 ?c2 (by unfold maxLen; omega) (by omega) ?c5 ?_)
          case c1 => exact one_at _ _ _
          case c2 => exact one_one _
          case c5 => have := hb.size; simp; omega
          · intro v' w1 hown hgrow hnil
            have hb' := below_grown ((hb.alloc hb.size _)) (HY.out.alloc _) (Nat.le_refl _) hgrow
            obtain ⟨A2, cap2, rfl, hsl2⟩ := own_sl (own_more (zs := ys ++ [1]) hown rfl)
            have HS2 := Lib.hid hsl2
            have hlen : (ys ++ [1]).length ≤ 21 := by simp; omega
            have hR1 : Rws w1 := hR.ext hb'
            clear hown hgrow hnil hsl2
            generalize hzs : ys ++ [1] = zs at HS2 KP hlen ⊢
            clear hzs
            go_wp2_with fail
            refine (fit_any A2 cap2 zs w1 hR1 HS2.out (by unfold maxLen; omega)).mono ?_; rintro e w' ⟨rfl, rfl⟩
            rw [fits_iff.2 KP.out]
            go_wp2_with fail
            refine (awake06 _ hR1).mono ?_; rintro e w3 ⟨rfl, hb3⟩
            go_wp2
            go_ret
            exact ⟨rfl, (by repeat (with_reducible first | exact Below.refl _ _ | assumption | (refine ext_next (by assumption) ?_) | apply ext_alloc | apply ext_past | apply ext_drew | apply ext_drewN))⟩
        · clear hvy
          go_wp2_with fail
          refine (awake06 _ hRw).mono ?_; rintro e w3 ⟨rfl, hb3⟩
          go_wp2
          go_ret
          exact ⟨rfl, (by repeat (with_reducible first | exact Below.refl _ _ | assumption | (refine ext_next (by assumption) ?_) | apply ext_alloc | apply ext_past | apply ext_drew | apply ext_drewN))⟩
      · rw [g] at KP ⊢
        clear g G2
        have e5 : vB 2 = true := by decide
        go_wp2_with fail
        refine (load_2 _ hRw).mono ?_; rintro e w' ⟨rfl, rfl⟩
        rw [e5]
        go_wp2_with fail
        refine (valid_any y _ hRw).mono ?_; rintro e w' ⟨rfl, rfl⟩
        cases hvy : vB y
        · clear hvy
          go_wp2_with (at_builtin; refine wpList_append_own _ rfl _ _ 50 rfl w.heap.size 3 i0 (.int .i64 0) 1 8 Tryd.underlying50 HI.out HZ.out HZ1.out HZ2.out rfl (by decide) _ _ _ rfl (HY.out.alloc _) ⟨wr.heap.size, 0, none⟩ 1 1 [.int .i64 2] rfl rfl ?c1 ?c2 (by unfold maxLen; omega) (by omega) ?c5 ?_)
          case c1 => exact one_at _ _ _
          case c2 => exact one_one _
          case c5 => have := hb.size; simp; omega
          · intro v' w1 hown hgrow hnil
            have hb' := below_grown ((hb.alloc hb.size _)) (HY.out.alloc _) (Nat.le_refl _) hgrow
            obtain ⟨A2, cap2, rfl, hsl2⟩ := own_sl (own_more (zs := ys ++ [2]) hown rfl)
            have HS2 := Lib.hid hsl2
            have hlen : (ys ++ [2]).length ≤ 21 := by simp; omega
            have hR1 : Rws w1 := hR.ext hb'
            clear hown hgrow hnil hsl2
            generalize hzs : ys ++ [2] = zs at HS2 KP hlen ⊢
            clear hzs
            go_wp2_with fail
            refine (fit_any A2 cap2 zs w1 hR1 HS2.out (by unfold maxLen; omega)).mono ?_; rintro e w' ⟨rfl, rfl⟩
            rw [fits_iff.2 KP.out]
            go_wp2_with fail
            refine (awake06 _ hR1).mono ?_; rintro e w3 ⟨rfl, hb3⟩
            go_wp2
            go_ret
            exact ⟨rfl, (by repeat (with_reducible first | exact Below.refl _ _ | assumption | (refine ext_next (by assumption) ?_) | apply ext_alloc | apply ext_past | apply ext_drew | apply ext_drewN))⟩
        · clear hvy
          go_wp2_with fail
          refine (awake06 _ hRw).mono ?_; rintro e w3 ⟨rfl, hb3⟩
          go_wp2
          go_ret
          exact ⟨rfl, (by repeat (with_reducible first | exact Below.refl _ _ | assumption | (refine ext_next (by assumption) ?_) | apply ext_alloc | apply ext_past | apply ext_drew | apply ext_drewN))⟩

set_option maxRecDepth 100000 in
set_option maxHeartbeats 8000000 in
theorem keeps_write (A : Option Addr) (cap : Nat) (xs : List Int) (who : Int) (w : World) (hR : Rws w) (hx : SlI w A xs) (hn : xs.length ≤ 20) (h0 : 0 < xs.length) (hf : fitB xs = true)
    (j : Nat) (hj : j < xs.length) (hw : (Int.tmod who xs.length + xs.length).tmod xs.length = j) :
    Calls Tryd.prog 10 #[.slice A xs.length cap, .int .i64 who, .bool true] w fun e w' => e = .returned (.bool true) ∧ Below w.heap.size w w' := by
  have e0 : ((xs.length : Int) == 0) = false := by simp; intro h; simp [h] at h0
  have hne : xs ≠ [] := by intro h; simp [h] at h0
  have HF := Lib.hid hf
  have hm1 : -(xs.length : Int) < Int.tmod who xs.length := Int.lt_tmod_of_pos who (by omega)
  have hm2 : Int.tmod who xs.length < xs.length := Int.tmod_lt_of_pos who (by omega)
  obtain ⟨b, off, rfl, hbl, hc⟩ := hx h0
  have HX := Lib.hid hx
  have HC := Lib.hid hc
  clear hx hf hc
  obtain ⟨i0, hi, hz, hz1, hz2⟩ := info_parts info_int
  have HI := Lib.hid hi
  have HZ := Lib.hid hz
  have HZ1 := Lib.hid hz1
  have HZ2 := Lib.hid hz2
  clear hi hz hz1 hz2
  go_enter Tryd.func10, Tryd.ntmps10
  go_wp2_with fail
  refine (fit_any _ cap xs _ hR HX.out (by unfold maxLen; omega)).mono ?_; rintro e w' ⟨rfl, rfl⟩
  rw [HF.out]
  go_wp2
  go_loopg [10, 11, 12, 13] xs.length (fun m o t d i wr => ∃ k : Nat, k ≤ xs.length ∧ m = xs.length - k ∧ i = .int .i64 k ∧ t = .int .i64 (((xs.take k).eraseIdx j).countP owB : Nat) ∧ d = .int .i64 (((xs.take k).eraseIdx j).countP (lostB 0) : Nat) ∧
    wr.ownsRow w.heap.size 3 1 o (othL 0 j (xs.take k)).length ((othL 0 j (xs.take k)).map (Value.int .i64)) ∧ Below w.heap.size w wr)
  case atStart => exact ⟨0, by omega, rfl, rfl, by simp, by simp, by simpa [othL] using World.ownsRow_nil _ _ _ _, Below.refl _ _⟩
  case round =>
    obtain ⟨k, hk, rfl, rfl, rfl, rfl, hown, hb⟩ := hrel
    have HW := Lib.hid hown
    clear hown
    have hRw : Rws wr := hR.ext hb
    by_cases hlt : k < xs.length
    · by_cases hkj : k = j
      · subst hkj
        have s1 := Lib.hid (cnt_eq (p := owB) hj)
        have s2 := Lib.hid (cnt_eq (p := lostB 0) hj)
        have s3 := Lib.hid (oth_eq (to := 0) hj)
        generalize ((xs.take k).eraseIdx k).countP owB = nt at s1 ⊢
        generalize ((xs.take k).eraseIdx k).countP (lostB 0) = nd at s2 ⊢
        go_wp2
        go_roundg (xs.length - (k + 1))
        case measure => omega
        case rel => exact ⟨k + 1, by omega, rfl, by go_num, by rw [s1.out], by rw [s2.out], by rw [s3.out]; exact HW.out, hb⟩
      · have hq : ((k : Int) == j) = false := by simp; omega
        have hcx := (hb.cell (p := ⟨b, off + k, none⟩) hbl).trans (HC.out k hlt)
        have s1 := Lib.hid (cnt_ne (p := owB) hlt hkj)
        have s2 := Lib.hid (cnt_ne (p := lostB 0) hlt hkj)
        have s3 := Lib.hid (oth_ne (to := 0) hlt hkj)
        have s4 := (fits_iff.1 HF.out).is (List.getElem_mem hlt)
        have s5 : xs[k] = xs[k]?.getD 0 := by rw [List.getElem?_eq_getElem hlt]; rfl
        have hol : (othL 0 j (xs.take k)).length ≤ 20 := by unfold othL; rw [List.length_map]; have := List.length_eraseIdx_le (xs.take k) j; have := List.length_take_le k xs; omega
        have hnt : ((xs.take k).eraseIdx j).countP owB ≤ 20 := by have := List.length_eraseIdx_le (xs.take k) j; have := List.length_take_le k xs; have := List.countP_le_length (p := owB) (l := (xs.take k).eraseIdx j); omega
        have hnd : ((xs.take k).eraseIdx j).countP (lostB 0) ≤ 20 := by have := List.length_eraseIdx_le (xs.take k) j; have := List.length_take_le k xs; have := List.countP_le_length (p := lostB 0) (l := (xs.take k).eraseIdx j); omega
        rw [s5] at s4
        clear s5
        generalize ((xs.take k).eraseIdx j).countP owB = nt at s1 hnt ⊢
        generalize ((xs.take k).eraseIdx j).countP (lostB 0) = nd at s2 hnd ⊢
        generalize xs[k]?.getD 0 = x at hcx s1 s2 s3 s4
        have s6 : x = 0 ∨ x = 1 ∨ x = 2 ∨ x = 3 ∨ x = 4 := by omega
        clear s4
        rcases s6 with rfl | rfl | rfl | rfl | rfl
        · have hcx' : wr.cell? ⟨b, off + k, none⟩ = some (.int .i64 0) := hcx
          clear hcx
          go_wp2_with fail
          refine (probe_0_0 _ hRw).mono ?_; rintro e w' ⟨rfl, rfl⟩
          go_wp2_with (at_builtin; refine wpList_append_own _ rfl _ _ 50 rfl w.heap.size 3 i0 (.int .i64 0) 1 8 Tryd.underlying50 HI.out HZ.out HZ1.out HZ2.out rfl (by decide) _ _ _ rfl (HW.out.alloc _) ⟨wr.heap.size, 0, none⟩ 1 1 [.int .i64 0] rfl rfl ?c1 ?c2 (by unfold maxLen; omega) (by omega) ?c5 ?_)
          case c1 => exact one_at _ _ _
          case c2 => exact one_one _
          case c5 => have := hb.size; simp; omega
          · intro v' w1 hown hgrow hnil
            have hb' := below_grown ((hb.alloc hb.size _)) (HW.out.alloc _) (Nat.le_refl _) hgrow
            have hown' := own_more hown s3.out
            have HW' := Lib.hid hown'
            clear hown hgrow hnil hown' hb
            go_wp2
            go_roundg (xs.length - (k + 1))
            case measure => omega
            case rel => exact ⟨k + 1, by omega, rfl, by go_num, by rw [s1.out, if_neg (by decide)]; go_num, by rw [s2.out, if_neg (by decide)]; go_num, HW'.out, hb'⟩
        · have hcx' : wr.cell? ⟨b, off + k, none⟩ = some (.int .i64 1) := hcx
          clear hcx
          go_wp2_with fail
          refine (probe_1_0 _ hRw).mono ?_; rintro e w' ⟨rfl, rfl⟩
          go_wp2_with (at_builtin; refine wpList_append_own _ rfl _ _ 50 rfl w.heap.size 3 i0 (.int .i64 0) 1 8 Tryd.underlying50 HI.out HZ.out HZ1.out HZ2.out rfl (by decide) _ _ _ rfl (HW.out.alloc _) ⟨wr.heap.size, 0, none⟩ 1 1 [.int .i64 0] rfl rfl ?c1 ?c2 (by unfold maxLen; omega) (by omega) ?c5 ?_)
          case c1 => exact one_at _ _ _
          case c2 => exact one_one _
          case c5 => have := hb.size; simp; omega
          · intro v' w1 hown hgrow hnil
            have hb' := below_grown ((hb.alloc hb.size _)) (HW.out.alloc _) (Nat.le_refl _) hgrow
            have hown' := own_more hown s3.out
            have HW' := Lib.hid hown'
            clear hown hgrow hnil hown' hb
            go_wp2
            go_roundg (xs.length - (k + 1))
            case measure => omega
            case rel => exact ⟨k + 1, by omega, rfl, by go_num, by rw [s1.out, if_neg (by decide)]; go_num, by rw [s2.out, if_neg (by decide)]; go_num, HW'.out, hb'⟩
        · have hcx' : wr.cell? ⟨b, off + k, none⟩ = some (.int .i64 2) := hcx
          clear hcx
          go_wp2_with fail
          refine (probe_2_0 _ hRw).mono ?_; rintro e w' ⟨rfl, rfl⟩
          go_wp2_with (at_builtin; refine wpList_append_own _ rfl _ _ 50 rfl w.heap.size 3 i0 (.int .i64 0) 1 8 Tryd.underlying50 HI.out HZ.out HZ1.out HZ2.out rfl (by decide) _ _ _ rfl (HW.out.alloc _) ⟨wr.heap.size, 0, none⟩ 1 1 [.int .i64 0] rfl rfl ?c1 ?c2 (by unfold maxLen; omega) (by omega) ?c5 ?_)
          case c1 => exact one_at _ _ _
          case c2 => exact one_one _
          case c5 => have := hb.size; simp; omega
          · intro v' w1 hown hgrow hnil
            have hb' := below_grown ((hb.alloc hb.size _)) (HW.out.alloc _) (Nat.le_refl _) hgrow
            have hown' := own_more hown s3.out
            have HW' := Lib.hid hown'
            clear hown hgrow hnil hown' hb
            go_wp2
            go_roundg (xs.length - (k + 1))
            case measure => omega
            case rel => exact ⟨k + 1, by omega, rfl, by go_num, by rw [s1.out, if_pos (by decide)]; go_num, by rw [s2.out, if_neg (by decide)]; go_num, HW'.out, hb'⟩
        · have hcx' : wr.cell? ⟨b, off + k, none⟩ = some (.int .i64 3) := hcx
          clear hcx
          go_wp2_with fail
          refine (probe_3_0 _ hRw).mono ?_; rintro e w' ⟨rfl, rfl⟩
          have ed : dtB 0 = false := by decide
          go_wp2_with fail
          refine (dirty_0 _ hRw).mono ?_; rintro e w' ⟨rfl, rfl⟩
          rw [ed]
          go_wp2_with (at_builtin; refine wpList_append_own _ rfl _ _ 50 rfl w.heap.size 3 i0 (.int .i64 0) 1 8 Tryd.underlying50 HI.out HZ.out HZ1.out HZ2.out rfl (by decide) _ _ _ rfl (HW.out.alloc _) ⟨wr.heap.size, 0, none⟩ 1 1 [.int .i64 0] rfl rfl ?c1 ?c2 (by unfold maxLen; omega) (by omega) ?c5 ?_)
          case c1 => exact one_at _ _ _
          case c2 => exact one_one _
          case c5 => have := hb.size; simp; omega
          · intro v' w1 hown hgrow hnil
            have hb' := below_grown ((hb.alloc hb.size _)) (HW.out.alloc _) (Nat.le_refl _) hgrow
            have hown' := own_more hown s3.out
            have HW' := Lib.hid hown'
            clear hown hgrow hnil hown' hb
            go_wp2
            go_roundg (xs.length - (k + 1))
            case measure => omega
            case rel => exact ⟨k + 1, by omega, rfl, by go_num, by rw [s1.out, if_pos (by decide)]; go_num, by rw [s2.out, if_pos (by decide)]; go_num, HW'.out, hb'⟩
        · have hcx' : wr.cell? ⟨b, off + k, none⟩ = some (.int .i64 4) := hcx
          clear hcx
          go_wp2_with fail
          refine (probe_4_0 _ hRw).mono ?_; rintro e w' ⟨rfl, rfl⟩
          have ed : dtB 0 = false := by decide
          go_wp2_with fail
          refine (dirty_0 _ hRw).mono ?_; rintro e w' ⟨rfl, rfl⟩
          rw [ed]
          go_wp2_with (at_builtin; refine wpList_append_own _ rfl _ _ 50 rfl w.heap.size 3 i0 (.int .i64 0) 1 8 Tryd.underlying50 HI.out HZ.out HZ1.out HZ2.out rfl (by decide) _ _ _ rfl (HW.out.alloc _) ⟨wr.heap.size, 0, none⟩ 1 1 [.int .i64 0] rfl rfl ?c1 ?c2 (by unfold maxLen; omega) (by omega) ?c5 ?_)
          case c1 => exact one_at _ _ _
          case c2 => exact one_one _
          case c5 => have := hb.size; simp; omega
          · intro v' w1 hown hgrow hnil
            have hb' := below_grown ((hb.alloc hb.size _)) (HW.out.alloc _) (Nat.le_refl _) hgrow
            have hown' := own_more hown s3.out
            have HW' := Lib.hid hown'
            clear hown hgrow hnil hown' hb
            go_wp2
            go_roundg (xs.length - (k + 1))
            case measure => omega
            case rel => exact ⟨k + 1, by omega, rfl, by go_num, by rw [s1.out, if_pos (by decide)]; go_num, by rw [s2.out, if_pos (by decide)]; go_num, HW'.out, hb'⟩
    · have hkx : xs.take k = xs := by rw [show k = xs.length by omega]; exact List.take_length
      have hY := HW.out
      rw [hkx] at hY ⊢
      clear HW hkx
      obtain ⟨A', cap', rfl, hsl⟩ := own_sl hY
      have HY := Lib.hid hY
      have HS := Lib.hid hsl
      have t1 := (fits_iff.1 HF.out).told hj
      have d1 := (fits_iff.1 HF.out).lost hj 0
      have hol : (othL 0 j xs).length ≤ 20 := by unfold othL; rw [List.length_map]; have := List.length_eraseIdx_le xs j; omega
      generalize (xs.eraseIdx j).countP owB = nt at t1 ⊢
      generalize (xs.eraseIdx j).countP (lostB 0) = nd at d1 ⊢
      have G1 := Lib.hid (grant2 j xs).1
      have G2 := Lib.hid (grant2 j xs).2
      have KP := Lib.hid (keep2 j xs)
      rw [(grant2 j xs).2] at KP
      clear hY hsl
      generalize othL 0 j xs = ys at HY HS G1 G2 KP hol ⊢
      obtain rfl : k = xs.length := by omega
      go_wp2_with fail
      refine (granted_any 2 A' cap' ys _ hRw HS.out (by unfold maxLen; omega) (by omega)).mono ?_; rintro e w' ⟨rfl, rfl⟩
      rw [G1.out]
      rw [G2.out]
      have e4 : stB 4 = true := by decide
      have e5 : vB 4 = true := by decide
      go_wp2_with fail
      refine (store_4 _ hRw).mono ?_; rintro e w' ⟨rfl, rfl⟩
      rw [e4]
      go_wp2_with fail
      refine (load_4 _ hRw).mono ?_; rintro e w' ⟨rfl, rfl⟩
      rw [e5]
      go_wp2_with (at_builtin; refine wpList_append_own _ rfl _ _ 50 rfl w.heap.size 3 i0 (.int .i64 0) 1 8 Tryd.underlying50 HI.out HZ.out HZ1.out HZ2.out rfl (by decide) _ _ _ rfl (HY.out.alloc _) ⟨wr.heap.size, 0, none⟩ 1 1 [.int .i64 4] rfl rfl ?c1 ?c2 (by unfold maxLen; omega) (by omega) ?c5 ?_)
      case c1 => exact one_at _ _ _
      case c2 => exact one_one _
      case c5 => have := hb.size; simp; omega
      · intro v' w1 hown hgrow hnil
        have hb' := below_grown ((hb.alloc hb.size _)) (HY.out.alloc _) (Nat.le_refl _) hgrow
        obtain ⟨A2, cap2, rfl, hsl2⟩ := own_sl (own_more (zs := ys ++ [4]) hown rfl)
        have HS2 := Lib.hid hsl2
        have hlen : (ys ++ [4]).length ≤ 21 := by simp; omega
        have hR1 : Rws w1 := hR.ext hb'
        clear hown hgrow hnil hsl2
        generalize hzs : ys ++ [4] = zs at HS2 KP hlen ⊢
        clear hzs
        go_wp2_with fail
        refine (fit_any A2 cap2 zs w1 hR1 HS2.out (by unfold maxLen; omega)).mono ?_; rintro e w' ⟨rfl, rfl⟩
        rw [fits_iff.2 KP.out]
        go_wp2_with fail
        refine (awake06 _ hR1).mono ?_; rintro e w3 ⟨rfl, hb3⟩
        go_wp2
        go_ret
        exact ⟨rfl, (by repeat (with_reducible first | exact Below.refl _ _ | assumption | (refine ext_next (by assumption) ?_) | apply ext_alloc | apply ext_past | apply ext_drew | apply ext_drewN))⟩

theorem keeps_walk (A : Option Addr) (cap : Nat) (xs : List Int) (who : Int) (b : Bool) (w : World) (hR : Rws w) (hx : SlI w A xs) :
    Calls Tryd.prog 10 #[.slice A xs.length cap, .int .i64 who, .bool b] w fun e w' => e = .returned (.bool true) ∧ Below w.heap.size w w' := by
  by_cases hn : 20 < xs.length
  · exact keeps_many A _ cap who b w hR hn
  · by_cases h0 : xs.length = 0
    · rw [h0]; exact keeps_none A cap who b w hR
    · by_cases hf : fitB xs = true
      · obtain ⟨j, hj, hw⟩ := who_k who xs.length (by omega)
        cases b
        · exact keeps_read A cap xs who w hR hx (by omega) (by omega) hf j hj hw
        · exact keeps_write A cap xs who w hR hx (by omega) (by omega) hf j hj hw
      · exact keeps_unfit A cap xs who b w hR hx (by omega) (by omega) (by simpa using hf)

end Go.Proofs.YtnbdaffbmpbfjaaDoor
