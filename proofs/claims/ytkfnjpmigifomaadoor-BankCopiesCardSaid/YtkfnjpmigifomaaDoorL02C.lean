/- What this text holds: a call done with both memories, whatever it is; the chapter's example of layer 2. Condition: the table of limits holds what its initialiser lays. -/
import Derived.Test.YtkfnjpmigifomaaDoorL02B
import Derived.Test.YtkfnjpmigifomaaDoorMay01
namespace Go.Proofs.YtkfnjpmigifomaaDoor
open Go.RowKit

/-- Both did the same. -/
def Does2 (w : World) (lo hi p lo' hi' p' : Nat) (m : Mm) (e : Ending) (w' : World) : Prop := ∃ m' : Mm, e = .returned (.bool true) ∧ Bo w' lo hi p lo' hi' p' m' ∧ m'.c = m.c ∧ Ou (In2 lo hi lo' hi') w w'
theorem does02 {w : World} {lo hi p lo' hi' p' : Nat} {m : Mm} (h : Bo w lo hi p lo' hi' p' m) (hL : Lims w) (o : Op2) :
    Calls Tryd.prog 14 #[.pointer (some ⟨p, 0, none⟩), .pointer (some ⟨p', 0, none⟩), o.val] w (Does2 w lo hi p lo' hi' p' m) := by
  obtain ⟨ask, x, v, a, b⟩ := o
  have k : ∀ {m' : Mm}, (Calls Tryd.prog 14 #[.pointer (some ⟨p, 0, none⟩), .pointer (some ⟨p', 0, none⟩), .agg #[.int .i64 ask, .int .i64 x, .int .i64 v, .int .i64 a, .int .i64 b]] w fun e w' => e = .returned (.bool true) ∧ Bo w' lo hi p lo' hi' p' m' ∧ Ou (In2 lo hi lo' hi') w w') → m'.c = m.c →
    Calls Tryd.prog 14 #[.pointer (some ⟨p, 0, none⟩), .pointer (some ⟨p', 0, none⟩), .agg #[.int .i64 ask, .int .i64 x, .int .i64 v, .int .i64 a, .int .i64 b]] w (Does2 w lo hi p lo' hi' p' m) :=
    fun hh hc => hh.mono fun e w' ⟨h1, h2, h3⟩ => ⟨_, h1, h2, hc, h3⟩
  by_cases k0 : ask = 0
  · subst k0
    by_cases hn : x < 0
    · exact k (d02_read_no0 h hL x hn v a b) rfl
    · by_cases hx : (m.n : Int) ≤ x
      · exact k (d02_read_no1 h hL x ⟨hn, hx⟩ v a b) rfl
      · obtain ⟨l, rfl⟩ : ∃ l : Nat, x = l := ⟨x.toNat, by omega⟩
        exact k (d02_read_ok h hL l (by omega) v a b) rfl
  by_cases k1 : ask = 1
  · subst k1
    by_cases hn : x < 0
    · exact k (d02_write_no0 h hL x hn v a b) rfl
    · by_cases hx : (m.n : Int) ≤ x
      · exact k (d02_write_no1 h hL x ⟨hn, hx⟩ v a b) rfl
      · obtain ⟨l, rfl⟩ : ∃ l : Nat, x = l := ⟨x.toNat, by omega⟩
        exact k (d02_write_ok h hL l (by omega) v a b) rfl
  by_cases k2 : ask = 2
  · subst k2
    by_cases hn : x < 0
    · exact k (d02_get_no0 h hL x hn v a b) rfl
    · by_cases hx : 2 * (m.n : Int) ≤ x
      · exact k (d02_get_no1 h hL x ⟨hn, hx⟩ v a b) rfl
      · obtain ⟨l, rfl⟩ : ∃ l : Nat, x = l := ⟨x.toNat, by omega⟩
        exact k (d02_get_ok h hL l (by omega) v a b) rfl
  by_cases k3 : ask = 3
  · subst k3
    by_cases hn : x < 0
    · exact k (d02_set_no0 h hL x hn v a b) rfl
    · by_cases hx : 2 * (m.n : Int) ≤ x
      · exact k (d02_set_no1 h hL x ⟨hn, hx⟩ v a b) rfl
      · obtain ⟨l, rfl⟩ : ∃ l : Nat, x = l := ⟨x.toNat, by omega⟩
        exact k (d02_set_ok h hL l (by omega) v a b) rfl
  have ka : ask ≠ 0 ∧ ask ≠ 1 ∧ ask ≠ 2 ∧ ask ≠ 3 := ⟨k0, k1, k2, k3⟩
  by_cases hn : x < 0
  · exact k (d02_scrub_no0 h hL ask ka x hn v a b) rfl
  · by_cases hx : m.c.gr ≤ x
    · exact k (d02_scrub_no1 h hL ask ka x ⟨hn, hx⟩ v a b) rfl
    · obtain ⟨l, rfl⟩ : ∃ l : Nat, x = l := ⟨x.toNat, by omega⟩
      exact k (d02_scrub_ok h hL ask ka l (by omega) v a b) rfl

theorem few02_yes (A : Option Addr) (n c : Nat) (w : World) (hn : n ≤ 60) : Calls Tryd.prog 10 #[.slice A n c] w fun e w' => e = .returned (.bool true) ∧ w' = w := by
  have e0 : decide ((n : Int) ≤ 60) = true := by simp; omega
  go_enter Tryd.func10, Tryd.ntmps10
  go_wp2
  go_ret
  exact ⟨rfl, rfl⟩
theorem few02_no (A : Option Addr) (n c : Nat) (w : World) (hn : 60 < n) : Calls Tryd.prog 10 #[.slice A n c] w fun e w' => e = .returned (.bool false) ∧ w' = w := by
  have e0 : decide ((n : Int) ≤ 60) = false := by simp; omega
  go_enter Tryd.func10, Tryd.ntmps10
  go_wp2
  go_ret
  exact ⟨rfl, rfl⟩

/-- The example's configuration. -/
def ex02 : Cfg := ⟨1, 2, 1, 1, 1, 1, 2⟩
theorem ex02_ok : ex02.ok := by decide
theorem ex02_n : (Mm.zero ex02).n = 4 := by decide
set_option maxHeartbeats 2000000 in
theorem awake02 (w : World) (hL : Lims w) : Calls Tryd.prog 11 #[] w fun e w' => e = .returned (.bool true) ∧ Below w.heap.size w w' := by
  have HL := Lib.hid hL
  have HN := Lib.hid (bnew_ok ex02 w hL ex02_ok)
  clear hL
  go_enter Tryd.func11, Tryd.ntmps11
  go_wp2_with fail
  refine HN.out.mono ?_
  rintro e w1 ⟨p, rfl, hm, hb⟩
  have HM1 := Lib.hid hm
  have HB1 := Lib.hid hb
  clear hm hb HN
  go_wp2_with fail
  refine (bwrite_ok HM1.out (HL.out.ext HB1.out) 3 (by decide) 5 6).mono ?_
  rintro e w2 ⟨rfl, hm, hr⟩
  have HM2 := Lib.hid hm
  have HB2 := Lib.hid (hr.below HB1.out (by omega))
  clear hm hr
  go_wp2_with fail
  refine (bget_ok HM2.out (HL.out.ext HB2.out) 7 (by decide)).mono ?_
  rintro e w3 ⟨rfl, hb⟩
  rw [show ((Mm.zero ex02).put 3 5 6).wd 7 = 6 from rfl]
  have HM3 := Lib.hid (HM2.out.ext hb)
  have HB3 := Lib.hid (ext_trans HB2.out hb)
  clear hb
  go_wp2_with fail
  refine (bscrub_ok HM3.out (HL.out.ext HB3.out) 1 (by decide) (by decide)).mono ?_
  rintro e w4 ⟨rfl, hm, hr⟩
  have hz : ((Mm.zero ex02).put 3 5 6).zeros (lnN (lns ((Mm.zero ex02).put 3 5 6).c 1)) = _ := zeros_two (m := (Mm.zero ex02).put 3 5 6) ex02_ok 1 (by decide)
  rw [hz] at hm
  have HM4 := Lib.hid hm
  have HB4 := Lib.hid (hr.below HB3.out (by omega))
  clear hm hr
  go_wp2_with fail
  refine (bread_ok HM4.out (HL.out.ext HB4.out) 3 (by decide)).mono ?_
  rintro e w5 ⟨rfl, hm, hr⟩
  rw [show ((((Mm.zero ex02).put 3 5 6).put (2 * 1) 0 0).put (2 * 1 + 1) 0 0).wd (2 * 3) = 0 from rfl, show ((((Mm.zero ex02).put 3 5 6).put (2 * 1) 0 0).put (2 * 1 + 1) 0 0).wd (2 * 3 + 1) = 0 from rfl]
  have HB5 := Lib.hid (hr.below HB4.out (by omega))
  have hE : ∀ wx, (binOp .eql 26 (.agg #[.int .i64 0, .int .i64 0]) (.agg #[.int .i64 0, .int .i64 0])).run Tryd.prog wx = .ok (.bool true) wx := fun wx => by rw [eqLineV]; simp
  clear hm hr
  go_wp2_with fail
  go_ret
  exact ⟨rfl, ext_trans HB5.out (ext_alloc _ (Below.refl _ _))⟩

end Go.Proofs.YtkfnjpmigifomaaDoor
