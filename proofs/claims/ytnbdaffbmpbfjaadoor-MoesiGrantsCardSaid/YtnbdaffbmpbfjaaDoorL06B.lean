/- What this text holds: the walk of the law MoesiGrants. Condition: the table of states holds what its initialiser lays. -/
import Derived.Test.YtnbdaffbmpbfjaaDoorLaw06
namespace Go.Proofs.YtnbdaffbmpbfjaaDoor
open Go.RowKit

def zB (s : Int) : Bool := s == 0
theorem zB_all {xs : List Int} (h : xs.all isB = true) : xs.all zB = decide (xs.countP vB = 0) := by
  rw [Bool.eq_iff_iff, decide_eq_true_eq, List.countP_eq_zero, List.all_eq_true]
  rw [List.all_eq_true] at h
  constructor
  · intro hz x hx
    have := hz x hx
    simp only [zB, beq_iff_eq] at this
    subst this
    decide
  · intro hz x hx
    have h1 := h x hx
    have h2 := hz x hx
    simp only [isB, vB, zB, decide_eq_true_eq, beq_iff_eq] at *
    omega
theorem stB_any (xs : List Int) : xs.any stB = decide (0 < xs.countP stB) := by
  rw [Bool.eq_iff_iff, decide_eq_true_eq, List.countP_pos_iff, List.any_eq_true]
theorem stB_le (xs : List Int) (_h : xs.all isB = true) : xs.countP stB ≤ xs.countP vB := by
  refine List.countP_mono_left fun x hx hs => ?_
  simp only [stB, vB, decide_eq_true_eq] at *
  omega
theorem any_take {p : Int → Bool} {xs : List Int} {k : Nat} (hk : k < xs.length) : (xs.take (k + 1)).any p = ((xs.take k).any p || p (xs[k]?.getD 0)) := by
  rw [List.take_succ_eq_append_getElem hk, List.any_append]
  simp [List.getElem?_eq_getElem hk]
/-- What the law reckons that a grant brings. -/
theorem gr_of {kind : Int} {xs : List Int} {al wg : Bool} (hk : kind = 1 ∨ kind = 2) (h : xs.all isB = true) (ha : xs.all zB = al) (hw : xs.any stB = wg) :
    grA kind xs = (if wg || (kind == 2 && !al) then 0 else if kind == 2 then 4 else if al then 2 else 1) ∧ grE kind xs = (if wg || (kind == 2 && !al) then 16 else 0) := by
  have h1 := stB_le xs h
  rw [zB_all h] at ha
  rw [stB_any] at hw
  subst ha hw
  unfold grA grE
  generalize xs.countP vB = a at h1 ⊢
  generalize xs.countP stB = b at h1 ⊢
  rcases hk with rfl | rfl <;> rcases a with _ | a <;> rcases b with _ | b <;> first | omega | simp [h]

set_option maxRecDepth 100000 in
set_option maxHeartbeats 1000000 in
theorem grants_many (kind : Int) (A : Option Addr) (n cap : Nat) (w : World) (hR : Rws w) (hn : 20 < n) :
    Calls Tryd.prog 8 #[.int .i64 kind, .slice A n cap] w fun e w' => e = .returned (.bool true) ∧ Below w.heap.size w w' := by
  go_enter Tryd.func8, Tryd.ntmps8
  go_wp2_with fail
  refine (awake06 _ hR).mono ?_; rintro e w1 ⟨rfl, hb1⟩
  go_wp2
  go_ret
  exact ⟨rfl, (by repeat (with_reducible first | exact Below.refl _ _ | assumption | (refine ext_next (by assumption) ?_) | apply ext_alloc | apply ext_past | apply ext_drew | apply ext_drewN))⟩

set_option maxRecDepth 100000 in
set_option maxHeartbeats 1000000 in
theorem grants_kind (kind : Int) (A : Option Addr) (cap : Nat) (xs : List Int) (w : World) (hR : Rws w) (hn : xs.length ≤ 20) (h1 : (kind == 1) = false) (h2 : (kind == 2) = false) :
    Calls Tryd.prog 8 #[.int .i64 kind, .slice A xs.length cap] w fun e w' => e = .returned (.bool true) ∧ Below w.heap.size w w' := by
  have h1' : (kind != 1) = true := by simp [bne, h1]
  have h2' : (kind != 2) = true := by simp [bne, h2]
  have ha : grA kind xs = 0 := by unfold grA; rw [if_pos ⟨by simpa using h1, by simpa using h2⟩]
  have he : grE kind xs = 15 := by unfold grE; rw [if_pos ⟨by simpa using h1, by simpa using h2⟩]
  go_enter Tryd.func8, Tryd.ntmps8
  go_wp2_with fail
  refine (granted_kind kind A xs.length cap xs _ h1 h2).mono ?_; rintro e w' ⟨rfl, rfl⟩
  go_wp2_with fail
  refine (awake06 _ hR).mono ?_; rintro e w1 ⟨rfl, hb1⟩
  go_wp2
  go_ret
  exact ⟨rfl, (by repeat (with_reducible first | exact Below.refl _ _ | assumption | (refine ext_next (by assumption) ?_) | apply ext_alloc | apply ext_past | apply ext_drew | apply ext_drewN))⟩

set_option maxRecDepth 100000 in
set_option maxHeartbeats 4000000 in
theorem grants_1 (A : Option Addr) (cap : Nat) (xs : List Int) (w : World) (hR : Rws w) (hx : SlI w A xs) (hn : xs.length ≤ 20) :
    Calls Tryd.prog 8 #[.int .i64 1, .slice A xs.length cap] w fun e w' => e = .returned (.bool true) ∧ Below w.heap.size w w' := by
  have HX := Lib.hid hx
  clear hx
  go_enter Tryd.func8, Tryd.ntmps8
  go_wp2_with fail
  refine (granted_any 1 A cap xs _ hR HX.out (by unfold maxLen; omega) (by omega)).mono ?_; rintro e w' ⟨rfl, rfl⟩
  go_wp2
  go_loopg [7, 8, 9] xs.length (fun m a g i wr => ∃ (k : Nat) (al wg : Bool), k ≤ xs.length ∧ m = xs.length - k ∧ wr = w ∧ i = .int .i64 k ∧ a = .bool al ∧ g = .bool wg ∧ (xs.take k).all zB = al ∧ (xs.take k).any stB = wg ∧ (xs.take k).all isB = true)
  case atStart => exact ⟨0, true, false, by omega, rfl, rfl, rfl, rfl, rfl, by simp, by simp, by simp⟩
  case round =>
    obtain ⟨k, al, wg, hk, rfl, rfl, rfl, rfl, rfl, ha, hg, hi⟩ := hrel
    have HA := Lib.hid ha
    have HG := Lib.hid hg
    have HI := Lib.hid hi
    clear ha hg hi
    by_cases hlt : k < xs.length
    · obtain ⟨b, off, rfl, _, hc⟩ := HX.out (by omega)
      have hc1 := hc k hlt
      have s1 := Lib.hid (all_take (p := zB) hlt)
      have s2 := Lib.hid (any_take (p := stB) hlt)
      have s3 := Lib.hid (all_take (p := isB) hlt)
      have s4 := Lib.hid (fun h => all_get (p := isB) hlt h)
      clear hc
      generalize xs[k]?.getD 0 = x at hc1 s1 s2 s3 s4
      have bad : (x < 0 ∨ 4 < x) → Hid (grA 1 xs = 0 ∧ grE 1 xs = 10) := fun h => by
        have := s4.out (isB_no h)
        exact ⟨by simp [grA, this], by simp [grE, this]⟩
      rcases five x with h | rfl | rfl | rfl | rfl | rfl | h
      · obtain ⟨b1, b2⟩ := (bad (.inl h)).out
        clear bad
        go_wp2_with (first | (go_at_call 26; refine (letter_no x _ (.inl h)).mono ?_; rintro e w' ⟨rfl, rfl⟩) | (go_at_call 27; refine (awake06 _ hR).mono ?_; rintro e w1 ⟨rfl, hb1⟩))
        go_ret
        exact ⟨rfl, (by repeat (with_reducible first | exact Below.refl _ _ | assumption | (refine ext_next (by assumption) ?_) | apply ext_alloc | apply ext_past | apply ext_drew | apply ext_drewN))⟩
      · clear bad
        have e2 : stB 0 = false := by decide
        cases al <;> cases wg
        all_goals
          go_wp2_with (first | (go_at_call 26; refine (letter_0 _).mono ?_; rintro e w' ⟨rfl, rfl⟩) | (go_at_call 32; refine (rstore_0 _).mono ?_; rintro e w' ⟨rfl, rfl⟩))
          go_roundg (xs.length - (k + 1))
          case measure => omega
          case rel => exact ⟨k + 1, _, _, by omega, rfl, rfl, by go_num, rfl, rfl, by rw [s1.out, HA.out]; rfl, by rw [s2.out, HG.out]; rfl, by rw [s3.out, HI.out]; rfl⟩
      · clear bad
        have e2 : stB 1 = false := by decide
        cases al <;> cases wg
        all_goals
          go_wp2_with (first | (go_at_call 26; refine (letter_1 _).mono ?_; rintro e w' ⟨rfl, rfl⟩) | (go_at_call 32; refine (rstore_1 _).mono ?_; rintro e w' ⟨rfl, rfl⟩))
          go_roundg (xs.length - (k + 1))
          case measure => omega
          case rel => exact ⟨k + 1, _, _, by omega, rfl, rfl, by go_num, rfl, rfl, by rw [s1.out, HA.out]; rfl, by rw [s2.out, HG.out]; rfl, by rw [s3.out, HI.out]; rfl⟩
      · clear bad
        have e2 : stB 2 = true := by decide
        cases al <;> cases wg
        all_goals
          go_wp2_with (first | (go_at_call 26; refine (letter_2 _).mono ?_; rintro e w' ⟨rfl, rfl⟩) | (go_at_call 32; refine (rstore_2 _).mono ?_; rintro e w' ⟨rfl, rfl⟩))
          go_roundg (xs.length - (k + 1))
          case measure => omega
          case rel => exact ⟨k + 1, _, _, by omega, rfl, rfl, by go_num, rfl, rfl, by rw [s1.out, HA.out]; rfl, by rw [s2.out, HG.out]; rfl, by rw [s3.out, HI.out]; rfl⟩
      · clear bad
        have e2 : stB 3 = false := by decide
        cases al <;> cases wg
        all_goals
          go_wp2_with (first | (go_at_call 26; refine (letter_3 _).mono ?_; rintro e w' ⟨rfl, rfl⟩) | (go_at_call 32; refine (rstore_3 _).mono ?_; rintro e w' ⟨rfl, rfl⟩))
          go_roundg (xs.length - (k + 1))
          case measure => omega
          case rel => exact ⟨k + 1, _, _, by omega, rfl, rfl, by go_num, rfl, rfl, by rw [s1.out, HA.out]; rfl, by rw [s2.out, HG.out]; rfl, by rw [s3.out, HI.out]; rfl⟩
      · clear bad
        have e2 : stB 4 = true := by decide
        cases al <;> cases wg
        all_goals
          go_wp2_with (first | (go_at_call 26; refine (letter_4 _).mono ?_; rintro e w' ⟨rfl, rfl⟩) | (go_at_call 32; refine (rstore_4 _).mono ?_; rintro e w' ⟨rfl, rfl⟩))
          go_roundg (xs.length - (k + 1))
          case measure => omega
          case rel => exact ⟨k + 1, _, _, by omega, rfl, rfl, by go_num, rfl, rfl, by rw [s1.out, HA.out]; rfl, by rw [s2.out, HG.out]; rfl, by rw [s3.out, HI.out]; rfl⟩
      · obtain ⟨b1, b2⟩ := (bad (.inr h)).out
        clear bad
        go_wp2_with (first | (go_at_call 26; refine (letter_no x _ (.inr h)).mono ?_; rintro e w' ⟨rfl, rfl⟩) | (go_at_call 27; refine (awake06 _ hR).mono ?_; rintro e w1 ⟨rfl, hb1⟩))
        go_ret
        exact ⟨rfl, (by repeat (with_reducible first | exact Below.refl _ _ | assumption | (refine ext_next (by assumption) ?_) | apply ext_alloc | apply ext_past | apply ext_drew | apply ext_drewN))⟩
    · obtain rfl : k = xs.length := by omega
      have ht : xs.take xs.length = xs := List.take_length
      obtain ⟨g1, g2⟩ := gr_of (xs := xs) (al := al) (wg := wg) (kind := 1) (by omega) (by have := HI.out; rwa [ht] at this) (by have := HA.out; rwa [ht] at this) (by have := HG.out; rwa [ht] at this)
      clear ht
      cases al <;> cases wg
      all_goals
        simp at g1 g2
        go_wp2_with (go_at_call 27; refine (awake06 _ hR).mono ?_; rintro e w1 ⟨rfl, hb1⟩)
        go_ret
        exact ⟨rfl, (by repeat (with_reducible first | exact Below.refl _ _ | assumption | (refine ext_next (by assumption) ?_) | apply ext_alloc | apply ext_past | apply ext_drew | apply ext_drewN))⟩

set_option maxRecDepth 100000 in
set_option maxHeartbeats 4000000 in
theorem grants_2 (A : Option Addr) (cap : Nat) (xs : List Int) (w : World) (hR : Rws w) (hx : SlI w A xs) (hn : xs.length ≤ 20) :
    Calls Tryd.prog 8 #[.int .i64 2, .slice A xs.length cap] w fun e w' => e = .returned (.bool true) ∧ Below w.heap.size w w' := by
  have HX := Lib.hid hx
  clear hx
  go_enter Tryd.func8, Tryd.ntmps8
  go_wp2_with fail
  refine (granted_any 2 A cap xs _ hR HX.out (by unfold maxLen; omega) (by omega)).mono ?_; rintro e w' ⟨rfl, rfl⟩
  go_wp2
  go_loopg [7, 8, 9] xs.length (fun m a g i wr => ∃ (k : Nat) (al wg : Bool), k ≤ xs.length ∧ m = xs.length - k ∧ wr = w ∧ i = .int .i64 k ∧ a = .bool al ∧ g = .bool wg ∧ (xs.take k).all zB = al ∧ (xs.take k).any stB = wg ∧ (xs.take k).all isB = true)
  case atStart => exact ⟨0, true, false, by omega, rfl, rfl, rfl, rfl, rfl, by simp, by simp, by simp⟩
  case round =>
    obtain ⟨k, al, wg, hk, rfl, rfl, rfl, rfl, rfl, ha, hg, hi⟩ := hrel
    have HA := Lib.hid ha
    have HG := Lib.hid hg
    have HI := Lib.hid hi
    clear ha hg hi
    by_cases hlt : k < xs.length
    · obtain ⟨b, off, rfl, _, hc⟩ := HX.out (by omega)
      have hc1 := hc k hlt
      have s1 := Lib.hid (all_take (p := zB) hlt)
      have s2 := Lib.hid (any_take (p := stB) hlt)
      have s3 := Lib.hid (all_take (p := isB) hlt)
      have s4 := Lib.hid (fun h => all_get (p := isB) hlt h)
      clear hc
      generalize xs[k]?.getD 0 = x at hc1 s1 s2 s3 s4
      have bad : (x < 0 ∨ 4 < x) → Hid (grA 2 xs = 0 ∧ grE 2 xs = 10) := fun h => by
        have := s4.out (isB_no h)
        exact ⟨by simp [grA, this], by simp [grE, this]⟩
      rcases five x with h | rfl | rfl | rfl | rfl | rfl | h
      · obtain ⟨b1, b2⟩ := (bad (.inl h)).out
        clear bad
        go_wp2_with (first | (go_at_call 26; refine (letter_no x _ (.inl h)).mono ?_; rintro e w' ⟨rfl, rfl⟩) | (go_at_call 27; refine (awake06 _ hR).mono ?_; rintro e w1 ⟨rfl, hb1⟩))
        go_ret
        exact ⟨rfl, (by repeat (with_reducible first | exact Below.refl _ _ | assumption | (refine ext_next (by assumption) ?_) | apply ext_alloc | apply ext_past | apply ext_drew | apply ext_drewN))⟩
      · clear bad
        have e2 : stB 0 = false := by decide
        cases al <;> cases wg
        all_goals
          go_wp2_with (first | (go_at_call 26; refine (letter_0 _).mono ?_; rintro e w' ⟨rfl, rfl⟩) | (go_at_call 32; refine (rstore_0 _).mono ?_; rintro e w' ⟨rfl, rfl⟩))
          go_roundg (xs.length - (k + 1))
          case measure => omega
          case rel => exact ⟨k + 1, _, _, by omega, rfl, rfl, by go_num, rfl, rfl, by rw [s1.out, HA.out]; rfl, by rw [s2.out, HG.out]; rfl, by rw [s3.out, HI.out]; rfl⟩
      · clear bad
        have e2 : stB 1 = false := by decide
        cases al <;> cases wg
        all_goals
          go_wp2_with (first | (go_at_call 26; refine (letter_1 _).mono ?_; rintro e w' ⟨rfl, rfl⟩) | (go_at_call 32; refine (rstore_1 _).mono ?_; rintro e w' ⟨rfl, rfl⟩))
          go_roundg (xs.length - (k + 1))
          case measure => omega
          case rel => exact ⟨k + 1, _, _, by omega, rfl, rfl, by go_num, rfl, rfl, by rw [s1.out, HA.out]; rfl, by rw [s2.out, HG.out]; rfl, by rw [s3.out, HI.out]; rfl⟩
      · clear bad
        have e2 : stB 2 = true := by decide
        cases al <;> cases wg
        all_goals
          go_wp2_with (first | (go_at_call 26; refine (letter_2 _).mono ?_; rintro e w' ⟨rfl, rfl⟩) | (go_at_call 32; refine (rstore_2 _).mono ?_; rintro e w' ⟨rfl, rfl⟩))
          go_roundg (xs.length - (k + 1))
          case measure => omega
          case rel => exact ⟨k + 1, _, _, by omega, rfl, rfl, by go_num, rfl, rfl, by rw [s1.out, HA.out]; rfl, by rw [s2.out, HG.out]; rfl, by rw [s3.out, HI.out]; rfl⟩
      · clear bad
        have e2 : stB 3 = false := by decide
        cases al <;> cases wg
        all_goals
          go_wp2_with (first | (go_at_call 26; refine (letter_3 _).mono ?_; rintro e w' ⟨rfl, rfl⟩) | (go_at_call 32; refine (rstore_3 _).mono ?_; rintro e w' ⟨rfl, rfl⟩))
          go_roundg (xs.length - (k + 1))
          case measure => omega
          case rel => exact ⟨k + 1, _, _, by omega, rfl, rfl, by go_num, rfl, rfl, by rw [s1.out, HA.out]; rfl, by rw [s2.out, HG.out]; rfl, by rw [s3.out, HI.out]; rfl⟩
      · clear bad
        have e2 : stB 4 = true := by decide
        cases al <;> cases wg
        all_goals
          go_wp2_with (first | (go_at_call 26; refine (letter_4 _).mono ?_; rintro e w' ⟨rfl, rfl⟩) | (go_at_call 32; refine (rstore_4 _).mono ?_; rintro e w' ⟨rfl, rfl⟩))
          go_roundg (xs.length - (k + 1))
          case measure => omega
          case rel => exact ⟨k + 1, _, _, by omega, rfl, rfl, by go_num, rfl, rfl, by rw [s1.out, HA.out]; rfl, by rw [s2.out, HG.out]; rfl, by rw [s3.out, HI.out]; rfl⟩
      · obtain ⟨b1, b2⟩ := (bad (.inr h)).out
        clear bad
        go_wp2_with (first | (go_at_call 26; refine (letter_no x _ (.inr h)).mono ?_; rintro e w' ⟨rfl, rfl⟩) | (go_at_call 27; refine (awake06 _ hR).mono ?_; rintro e w1 ⟨rfl, hb1⟩))
        go_ret
        exact ⟨rfl, (by repeat (with_reducible first | exact Below.refl _ _ | assumption | (refine ext_next (by assumption) ?_) | apply ext_alloc | apply ext_past | apply ext_drew | apply ext_drewN))⟩
    · obtain rfl : k = xs.length := by omega
      have ht : xs.take xs.length = xs := List.take_length
      obtain ⟨g1, g2⟩ := gr_of (xs := xs) (al := al) (wg := wg) (kind := 2) (by omega) (by have := HI.out; rwa [ht] at this) (by have := HA.out; rwa [ht] at this) (by have := HG.out; rwa [ht] at this)
      clear ht
      cases al <;> cases wg
      all_goals
        simp at g1 g2
        go_wp2_with (go_at_call 27; refine (awake06 _ hR).mono ?_; rintro e w1 ⟨rfl, hb1⟩)
        go_ret
        exact ⟨rfl, (by repeat (with_reducible first | exact Below.refl _ _ | assumption | (refine ext_next (by assumption) ?_) | apply ext_alloc | apply ext_past | apply ext_drew | apply ext_drewN))⟩

theorem grants_walk (kind : Int) (A : Option Addr) (cap : Nat) (xs : List Int) (w : World) (hR : Rws w) (hx : SlI w A xs) :
    Calls Tryd.prog 8 #[.int .i64 kind, .slice A xs.length cap] w fun e w' => e = .returned (.bool true) ∧ Below w.heap.size w w' := by
  by_cases hn : 20 < xs.length
  · exact grants_many kind A xs.length cap w hR hn
  · by_cases h1 : kind = 1
    · subst h1; exact grants_1 A cap xs w hR hx (by omega)
    · by_cases h2 : kind = 2
      · subst h2; exact grants_2 A cap xs w hR hx (by omega)
      · exact grants_kind kind A cap xs w hR (by omega) (by simpa using h1) (by simpa using h2)

end Go.Proofs.YtnbdaffbmpbfjaaDoor
