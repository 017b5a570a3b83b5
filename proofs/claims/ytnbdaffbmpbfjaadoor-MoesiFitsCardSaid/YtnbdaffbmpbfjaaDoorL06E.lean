/- What this text holds: the walk of the law MoesiFits. Condition: the table of states holds what its initialiser lays. -/
import Derived.Test.YtnbdaffbmpbfjaaDoorLaw06
import Derived.Test.YtnbdaffbmpbfjaaDoorRef06B
import Derived.Test.YtnbdaffbmpbfjaaDoorOwn2
namespace Go.Proofs.YtnbdaffbmpbfjaaDoor
open Go.RowKit

theorem from_k (f : Int) (n : Nat) (h : 0 < n) : ∃ j : Nat, j < n ∧ (Int.tmod f n + n).tmod n = j := by
  have h1 : -(n : Int) < Int.tmod f n := Int.lt_tmod_of_pos f (by omega)
  have h2 : 0 ≤ (Int.tmod f n + n).tmod n := Int.tmod_nonneg _ (by omega)
  have h3 : (Int.tmod f n + n).tmod n < n := Int.tmod_lt_of_pos _ (by omega)
  exact ⟨((Int.tmod f n + n).tmod n).toNat, by omega, by omega⟩
theorem step_k (j k n : Nat) : (((j : Int) + k).tmod n) = (((j + k) % n : Nat) : Int) := by
  rw [← Int.natCast_add, Int.ofNat_tmod]

set_option maxRecDepth 100000 in
set_option maxHeartbeats 1000000 in
theorem fits_many (A : Option Addr) (n cap : Nat) (who : Int) (w : World) (hR : Rws w) (hn : 20 < n) :
    Calls Tryd.prog 9 #[.slice A n cap, .int .i64 who] w fun e w' => e = .returned (.bool true) ∧ Below w.heap.size w w' := by
  have e1 : fitB [] = true := by decide
  go_enter Tryd.func9, Tryd.ntmps9
  go_wp2_with fail
  refine (fit_any none 0 [] _ hR (fun h => absurd h (by simp)) (by simp)).mono ?_; rintro e w' ⟨rfl, rfl⟩
  rw [e1]
  go_wp2_with fail
  refine (awake06 _ hR).mono ?_; rintro e w1 ⟨rfl, hb1⟩
  go_wp2
  go_ret
  exact ⟨rfl, (by repeat (with_reducible first | exact Below.refl _ _ | assumption | (refine ext_next (by assumption) ?_) | apply ext_alloc | apply ext_past | apply ext_drew | apply ext_drewN))⟩

set_option maxRecDepth 100000 in
set_option maxHeartbeats 1000000 in
theorem fits_none (A : Option Addr) (cap : Nat) (who : Int) (w : World) (hR : Rws w) :
    Calls Tryd.prog 9 #[.slice A 0 cap, .int .i64 who] w fun e w' => e = .returned (.bool true) ∧ Below w.heap.size w w' := by
  have e1 : fitB [] = true := by decide
  go_enter Tryd.func9, Tryd.ntmps9
  go_wp2_with fail
  refine (fit_any none 0 [] _ hR (fun h => absurd h (by simp)) (by simp)).mono ?_; rintro e w' ⟨rfl, rfl⟩
  rw [e1]
  go_wp2_with fail
  refine (awake06 _ hR).mono ?_; rintro e w1 ⟨rfl, hb1⟩
  go_wp2
  go_ret
  exact ⟨rfl, (by repeat (with_reducible first | exact Below.refl _ _ | assumption | (refine ext_next (by assumption) ?_) | apply ext_alloc | apply ext_past | apply ext_drew | apply ext_drewN))⟩

set_option maxRecDepth 100000 in
set_option maxHeartbeats 2000000 in
theorem fits_some (A : Option Addr) (cap : Nat) (xs : List Int) (who : Int) (w : World) (hR : Rws w) (hx : SlI w A xs) (hn : xs.length ≤ 20) (h0 : 0 < xs.length) (fb : Bool) (hf : fitB xs = fb)
    (j : Nat) (hj : j < xs.length) (hw : (Int.tmod who xs.length + xs.length).tmod xs.length = j) :
    Calls Tryd.prog 9 #[.slice A xs.length cap, .int .i64 who] w fun e w' => e = .returned (.bool true) ∧ Below w.heap.size w w' := by
  have e0 : ((xs.length : Int) == 0) = false := by simp; intro h; simp [h] at h0
  have hne : xs ≠ [] := by intro h; simp [h] at h0
  have HF := Lib.hid hf
  have hm1 : -(xs.length : Int) < Int.tmod who xs.length := Int.lt_tmod_of_pos who (by omega)
  have hm2 : Int.tmod who xs.length < xs.length := Int.tmod_lt_of_pos who (by omega)
  obtain ⟨b, off, rfl, hbl, hc⟩ := hx h0
  have HX := Lib.hid hx
  have HC := Lib.hid hc
  clear hx hf hc
  obtain ⟨i0, hi, hz, hz1, hz2⟩ := info_parts info_int
  have HI := Lib.hid hi
  have HZ := Lib.hid hz
  have HZ1 := Lib.hid hz1
  have HZ2 := Lib.hid hz2
  clear hi hz hz1 hz2
  have htl : (turn xs j).length = xs.length := turn_length xs j
  have HTF := Lib.hid (turn_fit xs j)
  have HTG := Lib.hid (fun (k : Nat) (hk : k < xs.length) => turn_get xs hj hk)
  generalize turn xs j = ts at htl HTF HTG
  go_enter Tryd.func9, Tryd.ntmps9
  go_wp2
  go_loopg [6, 7] xs.length (fun m o i wr => ∃ k : Nat, k ≤ xs.length ∧ m = xs.length - k ∧ i = .int .i64 k ∧
    wr.ownsRow w.heap.size 3 1 o (ts.take k).length ((ts.take k).map (Value.int .i64)) ∧ Below w.heap.size w wr)
  case atStart => exact ⟨0, by omega, rfl, rfl, by simpa using World.ownsRow_nil _ _ _ _, Below.refl _ _⟩
  case round =>
    obtain ⟨k, hk, rfl, rfl, hown, hb⟩ := hrel
    have HW := Lib.hid hown
    clear hown
    by_cases hlt : k < xs.length
    · have hq := step_k j k xs.length
      have hp : (j + k) % xs.length < xs.length := Nat.mod_lt _ (by omega)
      have hcx := (hb.cell (p := ⟨b, off + (j + k) % xs.length, none⟩) hbl).trans (HC.out _ hp)
      rw [← HTG.out k hlt] at hcx
      have s3 := Lib.hid (take_snoc (ys := ts) (k := k) (by omega))
      have hol : (ts.take k).length ≤ 20 := by rw [List.length_take]; omega
      generalize ts[k]?.getD 0 = x at hcx s3
      generalize hys : ts.take k = ys at HW s3 hol ⊢
      clear hys
      generalize (j + k) % xs.length = p at hq hp hcx
      go_wp2_with (at_builtin; refine wpList_append_own _ rfl _ _ 50 rfl w.heap.size 3 i0 (.int .i64 0) 1 8 Tryd.underlying50 HI.out HZ.out HZ1.out HZ2.out rfl (by decide) _ _ _ rfl (HW.out.alloc _) ⟨wr.heap.size, 0, none⟩ 1 1 [.int .i64 x] rfl rfl ?c1 ?c2 (by unfold maxLen; omega) (by omega) ?c5 ?_)
      case c1 => exact one_at _ _ _
      case c2 => exact one_one _
      case c5 => have := hb.size; simp; omega
      · intro v' w1 hown hgrow hnil
        have hb' := below_grown ((hb.alloc hb.size _)) (HW.out.alloc _) (Nat.le_refl _) hgrow
        have hown' := own_more hown s3.out
        have HW' := Lib.hid hown'
        clear hown hgrow hnil hown' hb
        go_wp2
        go_roundg (xs.length - (k + 1))
        case measure => omega
        case rel => exact ⟨k + 1, by omega, rfl, by go_num, HW'.out, hb'⟩
    · have hkx : ts.take k = ts := by rw [show k = ts.length by omega]; exact List.take_length
      have hY := HW.out
      rw [hkx] at hY
      clear HW hkx
      obtain ⟨A', cap', rfl, hsl⟩ := own_sl hY
      have HS := Lib.hid hsl
      clear hY hsl
      have hRw : Rws wr := hR.ext hb
      have hxw := Lib.hid (HX.out.ext hb)
      have HFA := Lib.hid (fun (w' : World) (h1 : Rws w') (h2 : SlI w' A' ts) => htl ▸ fit_any A' cap' ts w' h1 h2 (by unfold maxLen; omega))
      obtain rfl : k = xs.length := by omega
      go_wp2_with fail
      refine (rfit_any _ cap xs wr hxw.out (by unfold maxLen; omega)).mono ?_; rintro e w' ⟨rfl, rfl⟩
      rw [HF.out]
      go_wp2_with fail
      refine (fit_any _ cap xs _ hRw hxw.out (by unfold maxLen; omega)).mono ?_; rintro e w' ⟨rfl, rfl⟩
      rw [HF.out]
      cases fb
      all_goals
        go_wp2_with fail
        refine (HFA.out wr hRw HS.out).mono ?_; rintro e w' ⟨rfl, rfl⟩
        rw [HTF.out, HF.out]
        go_wp2_with fail
        refine (awake06 _ hRw).mono ?_; rintro e w3 ⟨rfl, hb3⟩
        go_wp2
        go_ret
        exact ⟨rfl, (by repeat (with_reducible first | exact Below.refl _ _ | assumption | (refine ext_next (by assumption) ?_) | apply ext_alloc | apply ext_past | apply ext_drew | apply ext_drewN))⟩

theorem fits_walk (A : Option Addr) (cap : Nat) (xs : List Int) (who : Int) (w : World) (hR : Rws w) (hx : SlI w A xs) :
    Calls Tryd.prog 9 #[.slice A xs.length cap, .int .i64 who] w fun e w' => e = .returned (.bool true) ∧ Below w.heap.size w w' := by
  by_cases hn : 20 < xs.length
  · exact fits_many A _ cap who w hR hn
  · by_cases h0 : xs.length = 0
    · rw [h0]; exact fits_none A cap who w hR
    · obtain ⟨j, hj, hw⟩ := from_k who xs.length (by omega)
      exact fits_some A cap xs who w hR hx (by omega) (by omega) _ rfl j hj hw

end Go.Proofs.YtnbdaffbmpbfjaaDoor
