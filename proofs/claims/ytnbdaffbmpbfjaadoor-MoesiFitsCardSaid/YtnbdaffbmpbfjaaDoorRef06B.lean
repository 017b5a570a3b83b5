/- What this text holds: the document's answer on which states fit. No condition. -/
import Derived.Test.YtnbdaffbmpbfjaaDoorPl06B
namespace Go.Proofs.YtnbdaffbmpbfjaaDoor
open Go.RowKit

set_option maxRecDepth 100000 in
set_option maxHeartbeats 8000000 in
theorem rfit_any (A : Option Addr) (cap : Nat) (xs : List Int) (w : World) (hx : SlI w A xs) (hm : xs.length ≤ maxLen) :
    Calls Tryd.prog 34 #[.slice A xs.length cap] w fun e w' => e = .returned (.bool (fitB xs)) ∧ w = w' := by
  unfold maxLen at hm
  have HX := Lib.hid hx
  clear hx
  go_enter Tryd.func34, Tryd.ntmps34
  go_wp2
  go_loopg [3] xs.length (fun m i wr => ∃ k : Nat, k ≤ xs.length ∧ m = xs.length - k ∧ wr = w ∧ i = .int .i64 k ∧ fitB (xs.take k) = true)
  case atStart => exact ⟨0, by omega, rfl, rfl, rfl, by simp [fitB]⟩
  case round =>
    obtain ⟨k, hk, rfl, rfl, rfl, hf⟩ := hrel
    have HF := Lib.hid hf
    clear hf
    by_cases hlt : k < xs.length
    · obtain ⟨b, off, rfl, _, hc⟩ := HX.out (by omega)
      have HC := Lib.hid hc
      have hck := hc k hlt
      clear hc
      have sn := Lib.hid (fit_snoc hlt HF.out)
      have sb := Lib.hid (fun h => fit_no hlt h)
      have sc := Lib.hid (fun i (hi : i < k) h => fit_conf hlt hi h)
      generalize xs[k]?.getD 0 = a at hck sn sb sc
      by_cases hia : isB a = true
      · have hla := letB_yes hia
        have HIA := Lib.hid hia
        clear hia
        go_wp2_with fail
        refine (letter_any a _).mono ?_; rintro e w' ⟨rfl, rfl⟩
        generalize letB a = l at hla ⊢
        go_wp2
        go_loopg [4] k (fun m i wq => ∃ q : Nat, q ≤ k ∧ m = k - q ∧ wq = wr ∧ i = .int .i64 q ∧ ∀ i, i < q → conf a (xs[i]?.getD 0) = false)
        case atStart => exact ⟨0, by omega, rfl, rfl, rfl, by omega⟩
        case round =>
          obtain ⟨q, hq, rfl, rfl, rfl, hcf⟩ := hrel
          have HQ := Lib.hid hcf
          clear hcf
          by_cases hlq : q < k
          · have hcq := HC.out q (by omega)
            have sq := Lib.hid (fun h => sc.out q hlq h)
            have sr : conf a (xs[q]?.getD 0) = false → Hid (∀ i, i < q + 1 → conf a (xs[i]?.getD 0) = false) := fun h => Lib.hid (fun i hi => by
              by_cases hiq : i = q
              · rw [hiq]; exact h
              · exact HQ.out i (by omega))
            have SR := Lib.hid sr
            clear sr
            generalize xs[q]?.getD 0 = c at hcq sq SR
            clear sn sb sc HC
            rcases cls a with ⟨a1, a2, a3⟩ | ⟨a1, a2, a3⟩ | ⟨a1, a2, a3⟩ | ⟨a1, a2, a3⟩ <;> rcases cls c with ⟨c1, c2, c3⟩ | ⟨c1, c2, c3⟩ | ⟨c1, c2, c3⟩ | ⟨c1, c2, c3⟩
            all_goals first
              | (have hcf : conf a c = true := by (simp [conf, a1, a2, a3, c1, c2, c3]; done)
                 have hff := sq.out hcf
                 clear hcf
                 try subst a1
                 try subst c1
                 go_wp2_with (first | (go_at_call 29; refine (rowner_any _ _).mono ?_; rintro e w' ⟨rfl, rfl⟩) | (go_at_call 32; refine (rstore_any _ _).mono ?_; rintro e w' ⟨rfl, rfl⟩))
                 go_ret
                 exact ⟨ret_bool hff.symm, rfl⟩)
              | (have hcf : conf a c = false := by (simp [conf, a1, a2, a3, c1, c2, c3]; done)
                 have hr := SR.out hcf
                 clear hcf
                 try subst a1
                 try subst c1
                 go_wp2_with (first | (go_at_call 29; refine (rowner_any _ _).mono ?_; rintro e w' ⟨rfl, rfl⟩) | (go_at_call 32; refine (rstore_any _ _).mono ?_; rintro e w' ⟨rfl, rfl⟩))
                 go_roundg (k - (q + 1))
                 case measure => omega
                 case rel => exact ⟨q + 1, by omega, rfl, rfl, by go_num, hr.out⟩)
          · obtain rfl : q = k := by omega
            go_wp2
            go_roundg (xs.length - (q + 1))
            case measure => omega
            case rel => exact ⟨q + 1, by omega, rfl, rfl, by go_num, sn.out HIA.out HQ.out⟩
      · have hff := sb.out (by simpa using hia)
        have hno : a < 0 ∨ 4 < a := by simp only [isB, decide_eq_true_eq] at hia; omega
        go_wp2_with fail
        refine (letter_no a _ hno).mono ?_; rintro e w' ⟨rfl, rfl⟩
        go_wp2
        go_ret
        exact ⟨ret_bool hff.symm, rfl⟩
    · have hfx : fitB xs = true := by have := HF.out; rwa [show k = xs.length by omega, List.take_length] at this
      obtain rfl : k = xs.length := by omega
      go_wp2
      go_ret
      exact ⟨ret_bool hfx.symm, rfl⟩

end Go.Proofs.YtnbdaffbmpbfjaaDoor
