/- What this text holds: a memory's Copy, walked. No condition. -/
import Derived.Test.YtkfnjpmigifomaaDoorBankF
import Derived.Test.YtkfnjpmigifomaaDoorBankC
import Derived.Deep.RegionHeld3
namespace Go.Proofs.YtkfnjpmigifomaaDoor
open Go.RowKit

set_option maxHeartbeats 2000000 in
theorem bcopy_ok {w : World} {lo hi p : Nat} {m : Mm} (h : Bm w lo hi p m) :
    Calls Tryd.prog 15 #[.pointer (some ⟨p, 0, none⟩)] w fun e w' => ∃ p', e = .returned (.pointer (some ⟨p', 0, none⟩)) ∧ Bm w' w.heap.size w'.heap.size p' m ∧ Below w.heap.size w w' := by
  obtain ⟨q, R, h⟩ := h
  obtain ⟨cp, t1, t2⟩ := h.top
  have H := Lib.hid h
  have HN := Lib.hid (Mm.nb_of h.ok)
  have HC := Lib.hid (clone_bank w.drew (row_keep t2 (fun _ _ => rfl)) (bank_one h) (by have := HN.out.2.1; omega))
  obtain ⟨k0, k1, k2, k3, k4, k5, k6, k7⟩ := top_at t1
  have hp := lt_of t1
  have HT := Lib.hid t1
  clear t1 t2 h
  go_enter Tryd.func15, Tryd.ntmps15
  go_wp2_with fail
  have QQ := HT.out
  go_region_held3 (fun w' => w'.cell? ⟨p, 0, none⟩ = some (.int .i64 m.c.co) ∧ w'.cell? ⟨p, 1, none⟩ = some (.int .i64 m.c.gr) ∧ w'.cell? ⟨p, 2, none⟩ = some (.int .i64 m.c.se) ∧ w'.cell? ⟨p, 3, none⟩ = some (.int .i64 m.c.wa) ∧ w'.cell? ⟨p, 4, none⟩ = some (.int .i64 m.c.de) ∧ w'.cell? ⟨p, 5, none⟩ = some (.int .i64 m.c.en) ∧ w'.cell? ⟨p, 6, none⟩ = some (.int .i64 m.c.ba) ∧ w'.cell? ⟨p, 7, none⟩ = some (.slice (some ⟨q, 0, none⟩) m.nb cp))
    (first | exact top_at QQ | exact top_at (alOld QQ))
    (first
      | (go_at_call 63; refine HC.out.mono ?_; rintro e w2 ⟨v, rfl, ho, hb⟩; obtain ⟨q', c', rfl⟩ := form_pos ho HN.out.1; have HO := Lib.hid ho; have HB := Lib.hid hb; have QQ := (hb.block p hp).trans HT.out; clear ho hb))
  clear k0 k1 k2 k3 k4 k5 k6 k7 hp QQ
  have HP := Lib.hid (cp_zero H.out (ext_trans (ext_drew (Below.refl _ _)) HB.out) (own_ge HO.out rfl) HO.out)
  obtain ⟨k0, k1, k2, k3, k4, k5, k6, k7⟩ := top_at HP.out.top
  have hl := HP.out.bd.2.2.2.1
  generalize w2.heap.size = p' at *
  go_wp2_with fail
  go_loopg [23] m.nb (fun g s23 wr => ∃ (i : Nat) (R' : Nat → Value), s23 = .int .i64 i ∧ i + g = m.nb ∧ Hid (Cp w wr i lo hi p q p' q' c' R R' m))
  case atStart => exact ⟨0, R, rfl, by omega, HP⟩
  case round =>
    obtain ⟨i, R', rfl, hi, HR⟩ := hrel
    by_cases hlt : i < m.nb
    · have ek : decide ((i : Int) < (m.nb : Int)) = true := by simp; omega
      go_wp2_with fail
      have HT1 := Lib.hid HR.out.top
      have HLI := Lib.hid hlt
      have hi4 : (i : Int) ≤ 4 := by have := HN.out.2.1; omega
      obtain ⟨j0, j1, j2, j3, j4, j5, j6, j7⟩ := top_at HR.out.top
      have hl1 := HR.out.bd.2.2.2.1
      have hl2 := HR.out.bd.2.2.2.2
      have hRi := HR.out.old i (Nat.le_refl _) hlt
      have hx := row_at HR.out.row hlt
      have hrow := HR.out.src.ln i hlt
      obtain ⟨A, cc, hA, _⟩ := row_form hrow
      rw [hRi, hA] at hx
      rw [hA] at hrow
      have hxq := own_free HR.out.row (i * 3 + 2)
      have HX := Lib.hid hx
      have HXQ := Lib.hid hxq
      have HRW := Lib.hid hrow
      have HCL := Lib.hid (show cntB m.nb m.n i ≤ 1000 by have := cnt_le (n := m.n) (i := i) HN.out.1; have := m.n_le; omega)
      have hpq := HR.out.bd.2.2.1
      clear hRi hA hrow
      generalize hcn : cntB m.nb m.n i = cn at *
      have HCN := Lib.hid (clone_line wr.drew (row_keep (w' := wr.drew) HRW.out (fun _ _ => rfl)) (tab_one fun _ _ => rfl) HCL.out)
      go_region_with (go_at_call 64; refine HCN.out.mono ?_; rintro e w4 ⟨v', rfl, ho, hb⟩; have HO4 := Lib.hid ho; have HB4 := Lib.hid hb; obtain ⟨i0, i1, i2, i3, i4, i5, i6, i7⟩ := top_at ((hb.block _ hl1).trans HT1.out); have hl3 := Nat.lt_of_lt_of_le hl1 hb.size; have hl4 := Nat.lt_of_lt_of_le hl2 hb.size; have hx4 := (hb.cell (p := ⟨q', i * 3 + 2, none⟩) hl2).trans HX.out; have hf4 := (hb.frozen (p := ⟨q', i * 3 + 2, none⟩) hl2).trans HXQ.out; obtain ⟨A4, c4, rfl, _⟩ := row_form ho; clear ho hb)
      all_goals
        have HN4 := Lib.hid (cp_next HR.out HLI.out (ext_trans (ext_drew (Below.refl _ _)) HB4.out) (v := .slice A4 cn c4) (by rw [hcn]; exact HO4.out))
        clear hx4 hf4 i0 i1 i2 i3 i4 i5 i6 i7 j0 j1 j2 j3 j4 j5 j6 j7 hx hxq
        go_wp2_with fail
        go_roundg (m.nb - (i + 1))
        case measure => omega
        case rel => exact ⟨i + 1, _, by go_num, by have := HLI.out; omega, Lib.hid (by first | exact HN4.out | exact HN4.out.ext (ext_drew (Below.refl _ _)))⟩
    · have ek : decide ((i : Int) < (m.nb : Int)) = false := by simp; omega
      obtain rfl : i = m.nb := by omega
      have HE := Lib.hid (cp_end HR.out)
      have HBE := Lib.hid HR.out.be
      go_wp2_with fail
      go_ret
      exact ⟨_, rfl, HE.out, HBE.out⟩

end Go.Proofs.YtkfnjpmigifomaaDoor
