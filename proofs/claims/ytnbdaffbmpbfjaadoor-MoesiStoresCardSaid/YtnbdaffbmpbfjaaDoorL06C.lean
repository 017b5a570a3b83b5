/- What this text holds: the walk of the law MoesiStores. Condition: the table of states holds what its initialiser lays. -/
import Derived.Test.YtnbdaffbmpbfjaaDoorLaw06
import Derived.Test.YtnbdaffbmpbfjaaDoorPl06
import Derived.Test.YtnbdaffbmpbfjaaDoorOwn
namespace Go.Proofs.YtnbdaffbmpbfjaaDoor
open Go.RowKit

set_option maxRecDepth 100000 in
set_option maxHeartbeats 1000000 in
theorem stores_many (A : Option Addr) (n cap : Nat) (who : Int) (w : World) (hR : Rws w) (hn : 20 < n) :
    Calls Tryd.prog 12 #[.slice A n cap, .int .i64 who] w fun e w' => e = .returned (.bool true) ∧ Below w.heap.size w w' := by
  go_enter Tryd.func12, Tryd.ntmps12
  go_wp2_with fail
  refine (awake06 _ hR).mono ?_; rintro e w1 ⟨rfl, hb1⟩
  go_wp2
  go_ret
  exact ⟨rfl, (by repeat (with_reducible first | exact Below.refl _ _ | assumption | (refine ext_next (by assumption) ?_) | apply ext_alloc | apply ext_past | apply ext_drew | apply ext_drewN))⟩

set_option maxRecDepth 100000 in
set_option maxHeartbeats 1000000 in
theorem stores_none (A : Option Addr) (cap : Nat) (who : Int) (w : World) (hR : Rws w) :
    Calls Tryd.prog 12 #[.slice A 0 cap, .int .i64 who] w fun e w' => e = .returned (.bool true) ∧ Below w.heap.size w w' := by
  go_enter Tryd.func12, Tryd.ntmps12
  go_wp2_with fail
  refine (awake06 _ hR).mono ?_; rintro e w1 ⟨rfl, hb1⟩
  go_wp2
  go_ret
  exact ⟨rfl, (by repeat (with_reducible first | exact Below.refl _ _ | assumption | (refine ext_next (by assumption) ?_) | apply ext_alloc | apply ext_past | apply ext_drew | apply ext_drewN))⟩

set_option maxRecDepth 100000 in
set_option maxHeartbeats 1000000 in
theorem stores_unfit (A : Option Addr) (cap : Nat) (xs : List Int) (who : Int) (w : World) (hR : Rws w) (hx : SlI w A xs) (hn : xs.length ≤ 20) (h0 : 0 < xs.length) (hf : fitB xs = false) :
    Calls Tryd.prog 12 #[.slice A xs.length cap, .int .i64 who] w fun e w' => e = .returned (.bool true) ∧ Below w.heap.size w w' := by
  have e0 : ((xs.length : Int) == 0) = false := by simp; intro h; simp [h] at h0
  have hne : xs ≠ [] := by intro h; simp [h] at h0
  have HX := Lib.hid hx
  have HF := Lib.hid hf
  clear hx hf
  go_enter Tryd.func12, Tryd.ntmps12
  go_wp2_with fail
  refine (fit_any A cap xs _ hR HX.out (by unfold maxLen; omega)).mono ?_; rintro e w' ⟨rfl, rfl⟩
  rw [HF.out]
  go_wp2_with fail
  refine (awake06 _ hR).mono ?_; rintro e w1 ⟨rfl, hb1⟩
  go_wp2
  go_ret
  exact ⟨rfl, (by repeat (with_reducible first | exact Below.refl _ _ | assumption | (refine ext_next (by assumption) ?_) | apply ext_alloc | apply ext_past | apply ext_drew | apply ext_drewN))⟩

set_option maxRecDepth 100000 in
set_option maxHeartbeats 4000000 in
theorem stores_0 (A : Option Addr) (cap : Nat) (xs : List Int) (who : Int) (w : World) (hR : Rws w) (hx : SlI w A xs) (hn : xs.length ≤ 20) (h0 : 0 < xs.length) (hf : fitB xs = true)
    (j : Nat) (hj : j < xs.length) (hw : (Int.tmod who xs.length + xs.length).tmod xs.length = j) (hxj : xs[j]?.getD 0 = 0) :
    Calls Tryd.prog 12 #[.slice A xs.length cap, .int .i64 who] w fun e w' => e = .returned (.bool true) ∧ Below w.heap.size w w' := by
  have e0 : ((xs.length : Int) == 0) = false := by simp; intro h; simp [h] at h0
  have hne : xs ≠ [] := by intro h; simp [h] at h0
  have HF := Lib.hid hf
  have hm1 : -(xs.length : Int) < Int.tmod who xs.length := Int.lt_tmod_of_pos who (by omega)
  have hm2 : Int.tmod who xs.length < xs.length := Int.tmod_lt_of_pos who (by omega)
  obtain ⟨b, off, rfl, hbl, hc⟩ := hx h0
  have hcj := hc j hj
  rw [hxj] at hcj
  have HX := Lib.hid hx
  have HC := Lib.hid hc
  have HXJ := Lib.hid hxj
  clear hx hf hc hxj
  go_enter Tryd.func12, Tryd.ntmps12
  go_wp2_with fail
  refine (fit_any _ cap xs _ hR HX.out (by unfold maxLen; omega)).mono ?_; rintro e w' ⟨rfl, rfl⟩
  rw [HF.out]
  go_wp2_with fail
  refine (wrote_0 _ hR).mono ?_; rintro e w' ⟨rfl, rfl⟩
  have e1 : stB 0 = false := by decide
  go_wp2_with fail
  refine (store_0 _ hR).mono ?_; rintro e w' ⟨rfl, rfl⟩
  rw [e1]
  go_wp2_with fail
  refine (awake06 _ hR).mono ?_; rintro e w1 ⟨rfl, hb1⟩
  go_wp2
  go_ret
  exact ⟨rfl, (by repeat (with_reducible first | exact Below.refl _ _ | assumption | (refine ext_next (by assumption) ?_) | apply ext_alloc | apply ext_past | apply ext_drew | apply ext_drewN))⟩

set_option maxRecDepth 100000 in
set_option maxHeartbeats 4000000 in
theorem stores_1 (A : Option Addr) (cap : Nat) (xs : List Int) (who : Int) (w : World) (hR : Rws w) (hx : SlI w A xs) (hn : xs.length ≤ 20) (h0 : 0 < xs.length) (hf : fitB xs = true)
    (j : Nat) (hj : j < xs.length) (hw : (Int.tmod who xs.length + xs.length).tmod xs.length = j) (hxj : xs[j]?.getD 0 = 1) :
    Calls Tryd.prog 12 #[.slice A xs.length cap, .int .i64 who] w fun e w' => e = .returned (.bool true) ∧ Below w.heap.size w w' := by
  have e0 : ((xs.length : Int) == 0) = false := by simp; intro h; simp [h] at h0
  have hne : xs ≠ [] := by intro h; simp [h] at h0
  have HF := Lib.hid hf
  have hm1 : -(xs.length : Int) < Int.tmod who xs.length := Int.lt_tmod_of_pos who (by omega)
  have hm2 : Int.tmod who xs.length < xs.length := Int.tmod_lt_of_pos who (by omega)
  obtain ⟨b, off, rfl, hbl, hc⟩ := hx h0
  have hcj := hc j hj
  rw [hxj] at hcj
  have HX := Lib.hid hx
  have HC := Lib.hid hc
  have HXJ := Lib.hid hxj
  clear hx hf hc hxj
  go_enter Tryd.func12, Tryd.ntmps12
  go_wp2_with fail
  refine (fit_any _ cap xs _ hR HX.out (by unfold maxLen; omega)).mono ?_; rintro e w' ⟨rfl, rfl⟩
  rw [HF.out]
  go_wp2_with fail
  refine (wrote_1 _ hR).mono ?_; rintro e w' ⟨rfl, rfl⟩
  have e1 : stB 1 = false := by decide
  go_wp2_with fail
  refine (store_1 _ hR).mono ?_; rintro e w' ⟨rfl, rfl⟩
  rw [e1]
  go_wp2_with fail
  refine (awake06 _ hR).mono ?_; rintro e w1 ⟨rfl, hb1⟩
  go_wp2
  go_ret
  exact ⟨rfl, (by repeat (with_reducible first | exact Below.refl _ _ | assumption | (refine ext_next (by assumption) ?_) | apply ext_alloc | apply ext_past | apply ext_drew | apply ext_drewN))⟩

set_option maxRecDepth 100000 in
set_option maxHeartbeats 4000000 in
theorem stores_3 (A : Option Addr) (cap : Nat) (xs : List Int) (who : Int) (w : World) (hR : Rws w) (hx : SlI w A xs) (hn : xs.length ≤ 20) (h0 : 0 < xs.length) (hf : fitB xs = true)
    (j : Nat) (hj : j < xs.length) (hw : (Int.tmod who xs.length + xs.length).tmod xs.length = j) (hxj : xs[j]?.getD 0 = 3) :
    Calls Tryd.prog 12 #[.slice A xs.length cap, .int .i64 who] w fun e w' => e = .returned (.bool true) ∧ Below w.heap.size w w' := by
  have e0 : ((xs.length : Int) == 0) = false := by simp; intro h; simp [h] at h0
  have hne : xs ≠ [] := by intro h; simp [h] at h0
  have HF := Lib.hid hf
  have hm1 : -(xs.length : Int) < Int.tmod who xs.length := Int.lt_tmod_of_pos who (by omega)
  have hm2 : Int.tmod who xs.length < xs.length := Int.tmod_lt_of_pos who (by omega)
  obtain ⟨b, off, rfl, hbl, hc⟩ := hx h0
  have hcj := hc j hj
  rw [hxj] at hcj
  have HX := Lib.hid hx
  have HC := Lib.hid hc
  have HXJ := Lib.hid hxj
  clear hx hf hc hxj
  go_enter Tryd.func12, Tryd.ntmps12
  go_wp2_with fail
  refine (fit_any _ cap xs _ hR HX.out (by unfold maxLen; omega)).mono ?_; rintro e w' ⟨rfl, rfl⟩
  rw [HF.out]
  go_wp2_with fail
  refine (wrote_3 _ hR).mono ?_; rintro e w' ⟨rfl, rfl⟩
  have e1 : stB 3 = false := by decide
  go_wp2_with fail
  refine (store_3 _ hR).mono ?_; rintro e w' ⟨rfl, rfl⟩
  rw [e1]
  go_wp2_with fail
  refine (awake06 _ hR).mono ?_; rintro e w1 ⟨rfl, hb1⟩
  go_wp2
  go_ret
  exact ⟨rfl, (by repeat (with_reducible first | exact Below.refl _ _ | assumption | (refine ext_next (by assumption) ?_) | apply ext_alloc | apply ext_past | apply ext_drew | apply ext_drewN))⟩

set_option maxRecDepth 100000 in
set_option maxHeartbeats 4000000 in
theorem stores_2 (A : Option Addr) (cap : Nat) (xs : List Int) (who : Int) (w : World) (hR : Rws w) (hx : SlI w A xs) (hn : xs.length ≤ 20) (h0 : 0 < xs.length) (hf : fitB xs = true)
    (j : Nat) (hj : j < xs.length) (hw : (Int.tmod who xs.length + xs.length).tmod xs.length = j) (hxj : xs[j]?.getD 0 = 2) :
    Calls Tryd.prog 12 #[.slice A xs.length cap, .int .i64 who] w fun e w' => e = .returned (.bool true) ∧ Below w.heap.size w w' := by
  have e0 : ((xs.length : Int) == 0) = false := by simp; intro h; simp [h] at h0
  have hne : xs ≠ [] := by intro h; simp [h] at h0
  have HF := Lib.hid hf
  have hm1 : -(xs.length : Int) < Int.tmod who xs.length := Int.lt_tmod_of_pos who (by omega)
  have hm2 : Int.tmod who xs.length < xs.length := Int.tmod_lt_of_pos who (by omega)
  obtain ⟨b, off, rfl, hbl, hc⟩ := hx h0
  have hcj := hc j hj
  rw [hxj] at hcj
  have HX := Lib.hid hx
  have HC := Lib.hid hc
  have HXJ := Lib.hid hxj
  clear hx hf hc hxj
  have hjE : xs[j] = 2 := by have := HXJ.out; rwa [List.getElem?_eq_getElem hj] at this
  have HA := Lib.hid (fun (i : Nat) (hi : i < xs.length) (hne : i ≠ j) => (fits_iff.1 HF.out).alone hj (by rw [hjE]; decide) hi hne)
  have HS := Lib.hid (fits_iff.2 ((fits_iff.1 HF.out).store hj (by rw [hjE]; decide)))
  obtain ⟨i0, hi, hz, hz1, hz2⟩ := info_parts info_int
  have HI := Lib.hid hi
  have HZ := Lib.hid hz
  have HZ1 := Lib.hid hz1
  have HZ2 := Lib.hid hz2
  clear hjE hi hz hz1 hz2
  go_enter Tryd.func12, Tryd.ntmps12
  go_wp2_with fail
  refine (fit_any _ cap xs _ hR HX.out (by unfold maxLen; omega)).mono ?_; rintro e w' ⟨rfl, rfl⟩
  rw [HF.out]
  go_wp2_with fail
  refine (wrote_2 _ hR).mono ?_; rintro e w' ⟨rfl, rfl⟩
  go_wp2
  go_loopg [8] xs.length (fun m i wr => ∃ k : Nat, k ≤ xs.length ∧ m = xs.length - k ∧ wr = w ∧ i = .int .i64 k)
  case atStart => exact ⟨0, by omega, rfl, rfl, rfl⟩
  case round =>
    obtain ⟨k, hk, rfl, rfl, rfl⟩ := hrel
    by_cases hlt : k < xs.length
    · by_cases hkj : k = j
      · subst hkj
        go_wp2
        go_roundg (xs.length - (k + 1))
        case measure => omega
        case rel => exact ⟨k + 1, by omega, rfl, rfl, by go_num⟩
      · have hq : ((k : Int) == j) = false := by simp; omega
        have hcx := HC.out k hlt
        have hv : vB (xs[k]?.getD 0) = false := by rw [List.getElem?_eq_getElem hlt]; exact HA.out k hlt hkj
        have HV := Lib.hid hv
        clear hv
        generalize xs[k]?.getD 0 = y at hcx HV
        go_wp2_with fail
        refine (valid_any y _ hR).mono ?_; rintro e w' ⟨rfl, rfl⟩
        rw [HV.out]
        go_wp2
        go_roundg (xs.length - (k + 1))
        case measure => omega
        case rel => exact ⟨k + 1, by omega, rfl, rfl, by go_num⟩
    · obtain rfl : k = xs.length := by omega
      go_wp2_with (at_builtin; refine wpList_append_own _ rfl _ _ 50 rfl wr.heap.size 3 i0 (.int .i64 0) 1 8 Tryd.underlying50 HI.out HZ.out HZ1.out HZ2.out rfl (by decide) _ _ _ rfl (World.ownsRow_nil _ _ _ _) ⟨b, off, none⟩ xs.length cap (xs.map (Value.int .i64)) rfl (by simp) ?c1 (ints_oneCell _ _) (by unfold maxLen; omega) (by omega) (by omega) ?_)
      case c1 =>
        intro i u hu
        have hi : i < xs.length := by have := (List.getElem?_eq_some_iff.1 hu).1; simpa using this
        rw [Addr.add_lit, HC.out i hi]
        rw [← hu]
        simp [hi]
      · intro v' w1 hown hgrow hnil
        rcases (own_i hown).2 with ⟨rfl, _⟩ | ⟨g, cap', rfl, ho⟩
        · exact absurd rfl hnil
        have hb1 := below_grown (Below.refl _ _) (World.ownsRow_nil wr wr.heap.size 3 1) (Nat.le_refl _) hgrow
        clear hown hgrow hnil
        have HO := Lib.hid ho
        have hcg := ho.cell j hj
        have hfg := ho.frozen j
        rw [HXJ.out] at hcg
        clear ho
        go_wp2_with fail
        have hl : xs.length = (xs.set j 4).length := by simp
        have hb2 : Below wr.heap.size wr (w1.setCell ⟨g, j, none⟩ (.int .i64 4)) := hb1.setCell HO.out.base _
        have hs2 : SlI (w1.setCell ⟨g, j, none⟩ (.int .i64 4)) (some ⟨g, 0, none⟩) (xs.set j 4) := (HO.out.set j 4).sl
        have HH := Lib.hid hs2
        clear hs2
        generalize (w1.setCell ⟨g, j, none⟩ (.int .i64 4)) = w2 at hb2 HH
        have hR2 : Rws w2 := hR.ext hb2
        rw [hl]
        refine (fit_any _ cap' (xs.set j 4) w2 hR2 HH.out (by unfold maxLen; simp; omega)).mono ?_; rintro e w' ⟨rfl, rfl⟩
        rw [HS.out]
        clear hl
        go_wp2_with fail
        refine (dirty_4 _ hR2).mono ?_; rintro e w' ⟨rfl, rfl⟩
        have e1 : dtB 4 = true := by decide
        rw [e1]
        go_wp2_with fail
        refine (store_4 _ hR2).mono ?_; rintro e w' ⟨rfl, rfl⟩
        have e2 : stB 4 = true := by decide
        rw [e2]
        go_wp2_with fail
        refine (awake06 _ hR2).mono ?_; rintro e w3 ⟨rfl, hb3⟩
        go_wp2
        go_ret
        exact ⟨rfl, (by repeat (with_reducible first | exact Below.refl _ _ | assumption | (refine ext_next (by assumption) ?_) | apply ext_alloc | apply ext_past | apply ext_drew | apply ext_drewN))⟩

set_option maxRecDepth 100000 in
set_option maxHeartbeats 4000000 in
theorem stores_4 (A : Option Addr) (cap : Nat) (xs : List Int) (who : Int) (w : World) (hR : Rws w) (hx : SlI w A xs) (hn : xs.length ≤ 20) (h0 : 0 < xs.length) (hf : fitB xs = true)
    (j : Nat) (hj : j < xs.length) (hw : (Int.tmod who xs.length + xs.length).tmod xs.length = j) (hxj : xs[j]?.getD 0 = 4) :
    Calls Tryd.prog 12 #[.slice A xs.length cap, .int .i64 who] w fun e w' => e = .returned (.bool true) ∧ Below w.heap.size w w' := by
  have e0 : ((xs.length : Int) == 0) = false := by simp; intro h; simp [h] at h0
  have hne : xs ≠ [] := by intro h; simp [h] at h0
  have HF := Lib.hid hf
  have hm1 : -(xs.length : Int) < Int.tmod who xs.length := Int.lt_tmod_of_pos who (by omega)
  have hm2 : Int.tmod who xs.length < xs.length := Int.tmod_lt_of_pos who (by omega)
  obtain ⟨b, off, rfl, hbl, hc⟩ := hx h0
  have hcj := hc j hj
  rw [hxj] at hcj
  have HX := Lib.hid hx
  have HC := Lib.hid hc
  have HXJ := Lib.hid hxj
  clear hx hf hc hxj
  have hjE : xs[j] = 4 := by have := HXJ.out; rwa [List.getElem?_eq_getElem hj] at this
  have HA := Lib.hid (fun (i : Nat) (hi : i < xs.length) (hne : i ≠ j) => (fits_iff.1 HF.out).alone hj (by rw [hjE]; decide) hi hne)
  have HS := Lib.hid (fits_iff.2 ((fits_iff.1 HF.out).store hj (by rw [hjE]; decide)))
  obtain ⟨i0, hi, hz, hz1, hz2⟩ := info_parts info_int
  have HI := Lib.hid hi
  have HZ := Lib.hid hz
  have HZ1 := Lib.hid hz1
  have HZ2 := Lib.hid hz2
  clear hjE hi hz hz1 hz2
  go_enter Tryd.func12, Tryd.ntmps12
  go_wp2_with fail
  refine (fit_any _ cap xs _ hR HX.out (by unfold maxLen; omega)).mono ?_; rintro e w' ⟨rfl, rfl⟩
  rw [HF.out]
  go_wp2_with fail
  refine (wrote_4 _ hR).mono ?_; rintro e w' ⟨rfl, rfl⟩
  go_wp2
  go_loopg [8] xs.length (fun m i wr => ∃ k : Nat, k ≤ xs.length ∧ m = xs.length - k ∧ wr = w ∧ i = .int .i64 k)
  case atStart => exact ⟨0, by omega, rfl, rfl, rfl⟩
  case round =>
    obtain ⟨k, hk, rfl, rfl, rfl⟩ := hrel
    by_cases hlt : k < xs.length
    · by_cases hkj : k = j
      · subst hkj
        go_wp2
        go_roundg (xs.length - (k + 1))
        case measure => omega
        case rel => exact ⟨k + 1, by omega, rfl, rfl, by go_num⟩
      · have hq : ((k : Int) == j) = false := by simp; omega
        have hcx := HC.out k hlt
        have hv : vB (xs[k]?.getD 0) = false := by rw [List.getElem?_eq_getElem hlt]; exact HA.out k hlt hkj
        have HV := Lib.hid hv
        clear hv
        generalize xs[k]?.getD 0 = y at hcx HV
        go_wp2_with fail
        refine (valid_any y _ hR).mono ?_; rintro e w' ⟨rfl, rfl⟩
        rw [HV.out]
        go_wp2
        go_roundg (xs.length - (k + 1))
        case measure => omega
        case rel => exact ⟨k + 1, by omega, rfl, rfl, by go_num⟩
    · obtain rfl : k = xs.length := by omega
      go_wp2_with (at_builtin; refine wpList_append_own _ rfl _ _ 50 rfl wr.heap.size 3 i0 (.int .i64 0) 1 8 Tryd.underlying50 HI.out HZ.out HZ1.out HZ2.out rfl (by decide) _ _ _ rfl (World.ownsRow_nil _ _ _ _) ⟨b, off, none⟩ xs.length cap (xs.map (Value.int .i64)) rfl (by simp) ?c1 (ints_oneCell _ _) (by unfold maxLen; omega) (by omega) (by omega) ?_)
      case c1 =>
        intro i u hu
        have hi : i < xs.length := by have := (List.getElem?_eq_some_iff.1 hu).1; simpa using this
        rw [Addr.add_lit, HC.out i hi]
        rw [← hu]
        simp [hi]
      · intro v' w1 hown hgrow hnil
        rcases (own_i hown).2 with ⟨rfl, _⟩ | ⟨g, cap', rfl, ho⟩
        · exact absurd rfl hnil
        have hb1 := below_grown (Below.refl _ _) (World.ownsRow_nil wr wr.heap.size 3 1) (Nat.le_refl _) hgrow
        clear hown hgrow hnil
        have HO := Lib.hid ho
        have hcg := ho.cell j hj
        have hfg := ho.frozen j
        rw [HXJ.out] at hcg
        clear ho
        go_wp2_with fail
        have hl : xs.length = (xs.set j 4).length := by simp
        have hb2 : Below wr.heap.size wr (w1.setCell ⟨g, j, none⟩ (.int .i64 4)) := hb1.setCell HO.out.base _
        have hs2 : SlI (w1.setCell ⟨g, j, none⟩ (.int .i64 4)) (some ⟨g, 0, none⟩) (xs.set j 4) := (HO.out.set j 4).sl
        have HH := Lib.hid hs2
        clear hs2
        generalize (w1.setCell ⟨g, j, none⟩ (.int .i64 4)) = w2 at hb2 HH
        have hR2 : Rws w2 := hR.ext hb2
        rw [hl]
        refine (fit_any _ cap' (xs.set j 4) w2 hR2 HH.out (by unfold maxLen; simp; omega)).mono ?_; rintro e w' ⟨rfl, rfl⟩
        rw [HS.out]
        clear hl
        go_wp2_with fail
        refine (dirty_4 _ hR2).mono ?_; rintro e w' ⟨rfl, rfl⟩
        have e1 : dtB 4 = true := by decide
        rw [e1]
        go_wp2_with fail
        refine (store_4 _ hR2).mono ?_; rintro e w' ⟨rfl, rfl⟩
        have e2 : stB 4 = true := by decide
        rw [e2]
        go_wp2_with fail
        refine (awake06 _ hR2).mono ?_; rintro e w3 ⟨rfl, hb3⟩
        go_wp2
        go_ret
        exact ⟨rfl, (by repeat (with_reducible first | exact Below.refl _ _ | assumption | (refine ext_next (by assumption) ?_) | apply ext_alloc | apply ext_past | apply ext_drew | apply ext_drewN))⟩


theorem who_j (who : Int) (n : Nat) (h : 0 < n) : ∃ j : Nat, j < n ∧ (Int.tmod who n + n).tmod n = j := by
  have h1 : -(n : Int) < Int.tmod who n := Int.lt_tmod_of_pos who (by omega)
  have h2 : 0 ≤ (Int.tmod who n + n).tmod n := Int.tmod_nonneg _ (by omega)
  have h3 : (Int.tmod who n + n).tmod n < n := Int.tmod_lt_of_pos _ (by omega)
  exact ⟨((Int.tmod who n + n).tmod n).toNat, by omega, by omega⟩
theorem stores_walk (A : Option Addr) (cap : Nat) (xs : List Int) (who : Int) (w : World) (hR : Rws w) (hx : SlI w A xs) :
    Calls Tryd.prog 12 #[.slice A xs.length cap, .int .i64 who] w fun e w' => e = .returned (.bool true) ∧ Below w.heap.size w w' := by
  by_cases hn : 20 < xs.length
  · exact stores_many A _ cap who w hR hn
  · by_cases h0 : xs.length = 0
    · rw [h0]; exact stores_none A cap who w hR
    · by_cases hf : fitB xs = true
      · obtain ⟨j, hj, hw⟩ := who_j who xs.length (by omega)
        have hi := (fits_iff.1 hf).is (List.getElem_mem hj)
        have he : xs[j]?.getD 0 = xs[j] := by rw [List.getElem?_eq_getElem hj]; rfl
        have h5 : xs[j] = 0 ∨ xs[j] = 1 ∨ xs[j] = 2 ∨ xs[j] = 3 ∨ xs[j] = 4 := by omega
        rcases h5 with h | h | h | h | h
        · exact stores_0 A cap xs who w hR hx (by omega) (by omega) hf j hj hw (he.trans h)
        · exact stores_1 A cap xs who w hR hx (by omega) (by omega) hf j hj hw (he.trans h)
        · exact stores_2 A cap xs who w hR hx (by omega) (by omega) hf j hj hw (he.trans h)
        · exact stores_3 A cap xs who w hR hx (by omega) (by omega) hf j hj hw (he.trans h)
        · exact stores_4 A cap xs who w hR hx (by omega) (by omega) hf j hj hw (he.trans h)
      · exact stores_unfit A cap xs who w hR hx (by omega) (by omega) (by simpa using hf)

end Go.Proofs.YtnbdaffbmpbfjaaDoor
