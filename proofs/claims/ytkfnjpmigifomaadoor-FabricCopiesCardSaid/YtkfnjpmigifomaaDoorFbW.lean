/- What this text holds: a new fabric. Condition: the table of limits holds what its initialiser lays. -/
import Derived.Test.YtkfnjpmigifomaaDoorFbN
namespace Go.Proofs.YtkfnjpmigifomaaDoor
open Go.RowKit

/-- A fabric that is being made: m lanes are there. -/
structure Fq (w W : World) (p : Nat) (c : Cfg) (m : Nat) (P : Nat → Nat) : Prop where
  be : Below w.heap.size w W
  cf : W.heap[w.heap.size]? = some (.cells #[.int .i64 c.co, .int .i64 c.gr, .int .i64 c.se, .int .i64 c.wa, .int .i64 c.de, .int .i64 c.en, .int .i64 c.ba] 23 (0, 0))
  box : W.heap[p]? = some (.cells #[.int .i64 c.co, .int .i64 c.gr, .int .i64 c.se, .int .i64 c.wa, .int .i64 c.de, .int .i64 c.en, .int .i64 c.ba, ptrI m P 0, ptrI m P 1, ptrI m P 2, ptrI m P 3, ptrI m P 4, ptrI m P 5, ptrI m P 6, ptrI m P 7, ptrI m P 8, ptrI m P 9, ptrI m P 10, ptrI m P 11, ptrI m P 12, ptrI m P 13, ptrI m P 14, ptrI m P 15] 128 (0, 0))
  la : ∀ i, i < m → La W (P i) c.de (.slice none 0 0) []
  lo : w.heap.size < p ∧ ∀ i, i < m → p < P i
  up : ∀ i j, i < j → j < m → P i < P j
section
variable {w W W1 : World} {p : Nat} {c : Cfg} {m : Nat} {P : Nat → Nat}
theorem Fq.ext (h : Fq w W p c m P) (hb : Below W.heap.size W W1) : Fq w W1 p c m P :=
  ⟨ext_trans h.be hb, (hb.block _ (lt_of h.cf)).trans h.cf, (hb.block _ (lt_of h.box)).trans h.box, fun i hi => (h.la i hi).ext hb, h.lo, h.up⟩
theorem ptrI_next (m : Nat) (P : Nat → Nat) (q j : Nat) : ptrI (m + 1) (upF P m q) j = if j = m then .pointer (some ⟨q, 0, none⟩) else ptrI m P j := by
  unfold ptrI upF
  by_cases h : j = m
  · subst h; simp
  · rw [if_neg h, if_neg h]
    by_cases h2 : j < m
    · rw [if_pos h2, if_pos (by omega)]
    · rw [if_neg h2, if_neg (by omega)]
theorem Fq.cell (h : Fq w W p c m P) {i k : Nat} (hm : m = i * 4 + k) (hk : k < 4) (hi : i < 4) : W.cell? ⟨p, 7 + i * 4 + k, none⟩ = some (.pointer none) := by
  have hp : ptrI m P (i * 4 + k) = .pointer none := by unfold ptrI; rw [if_neg (by omega)]
  rw [← hp]
  have hc : i = 0 ∨ i = 1 ∨ i = 2 ∨ i = 3 := by omega
  have hd : k = 0 ∨ k = 1 ∨ k = 2 ∨ k = 3 := by omega
  rcases hc with rfl | rfl | rfl | rfl <;> rcases hd with rfl | rfl | rfl | rfl <;> simp [World.cell?, h.box]
theorem Fq.free (h : Fq w W p c m P) (i : Nat) : W.frozen? ⟨p, i, none⟩ = false := by simp [World.frozen?, h.box]
set_option maxHeartbeats 4000000 in
theorem Fq.put (h : Fq w W p c m P) {i k : Nat} (hm : m = i * 4 + k) (hk : k < 4) (hi : i < 4) (hl : La W1 W.heap.size c.de (.slice none 0 0) []) (hb : Below W.heap.size W W1) :
    Fq w (W1.setCell ⟨p, 7 + i * 4 + k, none⟩ (.pointer (some ⟨W.heap.size, 0, none⟩))) p c (m + 1) (upF P m W.heap.size) := by
  have h1 := h.ext hb
  have hpl := lt_of h.box
  have hlo := h.lo
  have ho : ∀ q, q ≠ p → (W1.setCell ⟨p, 7 + i * 4 + k, none⟩ (.pointer (some ⟨W.heap.size, 0, none⟩))).heap[q]? = W1.heap[q]? := fun q hq => Below.heap_setCell _ _ _ _ (by simpa using hq)
  refine ⟨h1.be.setCell (p := ⟨p, 7 + i * 4 + k, none⟩) (by simp; omega) _, (ho _ (by omega)).trans h1.cf, ?_, fun j hj => ?_, ⟨hlo.1, fun j hj => ?_⟩, fun a b hab hbm => ?_⟩
  · have hs := Joins.block_setCell (i := 7 + i * 4 + k) h1.box (.pointer (some ⟨W.heap.size, 0, none⟩))
    rw [hs]
    subst hm
    have hc : i = 0 ∨ i = 1 ∨ i = 2 ∨ i = 3 := by omega
    have hd : k = 0 ∨ k = 1 ∨ k = 2 ∨ k = 3 := by omega
    rcases hc with rfl | rfl | rfl | rfl <;> rcases hd with rfl | rfl | rfl | rfl <;> simp [ptrI_next]
  · by_cases e : j = m
    · subst e
      rw [upF_same]
      exact hl.of_blocks (by simp) (ho _ (by omega)) (fun g hg => by cases hg)
    · rw [upF_ne _ _ e]
      have hj' : j < m := by omega
      exact (h1.la j hj').of_blocks (by simp) (ho _ (by have := hlo.2 j hj'; omega)) (fun g hg => by cases hg)
  · by_cases e : j = m
    · subst e; rw [upF_same]; omega
    · rw [upF_ne _ _ e]; exact hlo.2 j (by omega)
  · have ha : a ≠ m := by omega
    rw [upF_ne _ _ ha]
    by_cases e : b = m
    · subst e
      rw [upF_same]
      exact (h.la a (by omega)).lt
    · rw [upF_ne _ _ e]; exact h.up a b hab (by omega)
theorem Fq.fa (h : Fq w W p c m P) (hok : c.ok) (hn : (m : Int) = 4 * c.co) : Fa W w.heap.size p c m P (fun _ => .slice none 0 0) (fun _ => []) := by
  have h1 := hok.2.2.2.2.1
  unfold okAt at h1
  refine ⟨hok, hn, h.box, h.la, ⟨by have := h.lo.1; omega, fun i hi => ⟨by have := h.lo.1; have := h.lo.2 i hi; omega, fun g hg => by cases hg⟩⟩, fun i hi => ⟨by have := h.lo.2 i hi; omega, fun e => by cases e⟩, fun i j hi hj hne => ⟨?_, fun e => (by cases e), fun g hg => (by cases hg)⟩, fun i hi => by simp; omega⟩
  rcases Nat.lt_or_gt_of_ne hne with h2 | h2
  · have := h.up i j h2 hj; omega
  · have := h.up j i h2 hi; omega
end
set_option maxRecDepth 100000 in
set_option maxHeartbeats 4000000 in
theorem fnew_ok (c : Cfg) (hok : c.ok) (w : World) (hL : Lims w) : Calls Tryd.prog 31 #[.agg #[.int .i64 c.co, .int .i64 c.gr, .int .i64 c.se, .int .i64 c.wa, .int .i64 c.de, .int .i64 c.en, .int .i64 c.ba]] w fun e w' => ∃ p n P, e = .returned (.tuple #[.pointer (some ⟨p, 0, none⟩), .int .i64 0]) ∧ Fa w' w.heap.size p c n P (fun _ => .slice none 0 0) (fun _ => []) ∧ Below w.heap.size w w' := by
  have h1 := hok.1
  have h2 := hok.2.2.2.2.1
  unfold okAt at h1 h2
  obtain ⟨m, hm⟩ : ∃ m : Nat, c.co = m := ⟨c.co.toNat, by omega⟩
  have hm4 : (m : Int) ≤ 4 := by omega
  have HM := Lib.hid hm
  have HOK := Lib.hid hok
  have HLL := Lib.hid hL
  have HCK := Lib.hid (fun (W : World) (hb : Below w.heap.size w W) => show Calls Tryd.prog 58 #[.agg #[.int .i64 c.co, .int .i64 c.gr, .int .i64 c.se, .int .i64 c.wa, .int .i64 c.de, .int .i64 c.en, .int .i64 c.ba]] W (fun e w' => e = .returned (.int .i64 0) ∧ Below W.heap.size W w') by have := check_any c W (hL.ext hb); rw [chk_ok hok] at this; exact this)
  have HLN := Lib.hid (fun (W : World) => lnew_ok c.de W (by omega) (by omega))
  clear hL hok h1 h2 hm
  go_enter Tryd.func31, Tryd.ntmps31
  go_wp2_with fail
  refine (HCK.out _ (by repeat (with_reducible first | exact Below.refl _ _ | assumption | (refine ext_next (by assumption) ?_) | apply ext_alloc | apply ext_past | apply ext_drew | apply ext_drewN))).mono ?_
  rintro e w1 ⟨rfl, hb⟩
  have hcb : w1.heap[w.heap.size]? = some (.cells #[.int .i64 c.co, .int .i64 c.gr, .int .i64 c.se, .int .i64 c.wa, .int .i64 c.de, .int .i64 c.en, .int .i64 c.ba] 23 (0, 0)) := (hb.block _ (by simp)).trans (alNew rfl)
  have hbw : Below w.heap.size w w1 := ext_next hb (by repeat (with_reducible first | exact Below.refl _ _ | assumption | (refine ext_next (by assumption) ?_) | apply ext_alloc | apply ext_past | apply ext_drew | apply ext_drewN))
  have cc0 : w1.cell? ⟨w.heap.size, 0, none⟩ = some (.int .i64 c.co) := by simp [World.cell?, hcb]
  have cc1 : w1.cell? ⟨w.heap.size, 1, none⟩ = some (.int .i64 c.gr) := by simp [World.cell?, hcb]
  have cc2 : w1.cell? ⟨w.heap.size, 2, none⟩ = some (.int .i64 c.se) := by simp [World.cell?, hcb]
  have cc3 : w1.cell? ⟨w.heap.size, 3, none⟩ = some (.int .i64 c.wa) := by simp [World.cell?, hcb]
  have cc4 : w1.cell? ⟨w.heap.size, 4, none⟩ = some (.int .i64 c.de) := by simp [World.cell?, hcb]
  have cc5 : w1.cell? ⟨w.heap.size, 5, none⟩ = some (.int .i64 c.en) := by simp [World.cell?, hcb]
  have cc6 : w1.cell? ⟨w.heap.size, 6, none⟩ = some (.int .i64 c.ba) := by simp [World.cell?, hcb]
  have cl := lt_of hcb
  clear hb
  go_wp2_with fail
  obtain ⟨w2, hw2⟩ : ∃ w2, w2 = w1.alloc (.cells #[.int .i64 c.co, .int .i64 c.gr, .int .i64 c.se, .int .i64 c.wa, .int .i64 c.de, .int .i64 c.en, .int .i64 c.ba, .pointer none, .pointer none, .pointer none, .pointer none, .pointer none, .pointer none, .pointer none, .pointer none, .pointer none, .pointer none, .pointer none, .pointer none, .pointer none, .pointer none, .pointer none, .pointer none] 128) := ⟨_, rfl⟩
  rw [← hw2]
  obtain ⟨p, hp⟩ : ∃ p, p = w1.heap.size := ⟨_, rfl⟩
  rw [← hp]
  have HQ0 : Hid (Fq w w2 p c 0 (fun _ => 0)) := Lib.hid (by
    have hb12 : Below w1.heap.size w1 w2 := by rw [hw2]; repeat (with_reducible first | exact Below.refl _ _ | assumption | (refine ext_next (by assumption) ?_) | apply ext_alloc | apply ext_past | apply ext_drew | apply ext_drewN)
    refine ⟨ext_trans hbw hb12, (hb12.block _ cl).trans hcb, ?_, fun i hi => by omega, ⟨by omega, fun i hi => by omega⟩, fun i j hi hj => by omega⟩
    rw [hw2, hp]
    exact alNew rfl)
  clear hw2 hcb hbw cc0 cc1 cc2 cc3 cc4 cc5 cc6 cl hp
  go_loopg [20] m (fun g s20 wr => ∃ i : Nat, s20 = .int .i64 i ∧ i + g = m ∧ Hid (∃ P, Fq w wr p c (i * 4) P))
  case atStart => exact ⟨0, rfl, by omega, Lib.hid ⟨_, HQ0.out⟩⟩
  case round =>
    obtain ⟨i, rfl, hk, HR⟩ := hrel
    by_cases hlt : i < m
    · have ek : decide ((i : Int) < c.co) = true := by have := HM.out; simp; omega
      have HLT := Lib.hid (And.intro hk hlt)
      have hi4 : (i : Int) < 4 := by omega
      clear hk hlt
      go_wp2_with fail
      go_loopg [23] 4 (fun g s23 wr => ∃ k : Nat, s23 = .int .i64 k ∧ k + g = 4 ∧ Hid (∃ P, Fq w wr p c (i * 4 + k) P))
      case atStart => exact ⟨0, rfl, by omega, HR⟩
      case round =>
        clear HR
        obtain ⟨k, rfl, hk, HR⟩ := hrel
        obtain ⟨P, hq⟩ := HR.out
        have HQ := Lib.hid hq
        by_cases hlt : k < 4
        · have ej : decide ((k : Int) < 4) = true := by simp; omega
          have HLT2 := Lib.hid (And.intro hk hlt)
          have hk4 : (k : Int) < 4 := by omega
          have cl := lt_of hq.cf
          have cc4 : wr.cell? ⟨w.heap.size, 4, none⟩ = some (.int .i64 c.de) := by simp [World.cell?, hq.cf]
          clear hk hlt hq HR
          go_wp2_with fail
          refine (HLN.out _).mono ?_
          rintro e w3 ⟨rfl, hla, hb⟩
          have HLA := Lib.hid (And.intro hla hb)
          have pc := (HQ.out.ext hb).cell (i := i) (k := k) rfl (by omega) (by omega)
          have pf := (HQ.out.ext hb).free (7 + i * 4 + k)
          have pl := lt_of (HQ.out.ext hb).box
          clear hla hb
          go_wp2_with fail
          have HQ2 := Lib.hid (HQ.out.put rfl (by omega) (by omega) HLA.out.1 HLA.out.2)
          go_roundg (4 - (k + 1))
          case measure => have := HLT2.out; omega
          case rel => exact ⟨k + 1, by go_num, by have := HLT2.out; omega, Lib.hid ⟨_, HQ2.out⟩⟩
        · have ej : decide ((k : Int) < 4) = false := by simp; omega
          obtain rfl : k = 4 := by omega
          clear hk hlt hq HR
          go_wp2_with fail
          go_roundg (m - (i + 1))
          case measure => have := HLT.out; omega
          case rel => exact ⟨i + 1, by go_num, by have := HLT.out; omega, Lib.hid ⟨_, by rw [show (i + 1) * 4 = i * 4 + 4 by omega]; exact HQ.out⟩⟩
    · have ek : decide ((i : Int) < c.co) = false := by have := HM.out; simp; omega
      obtain rfl : i = m := by omega
      obtain ⟨P, hq⟩ := HR.out
      have HQ := Lib.hid hq
      clear hk hlt hq HR
      go_wp2_with fail
      go_ret2
      exact ⟨p, i * 4, P, rfl, HQ.out.fa HOK.out (by have := HM.out; omega), HQ.out.be⟩

end Go.Proofs.YtkfnjpmigifomaaDoor
