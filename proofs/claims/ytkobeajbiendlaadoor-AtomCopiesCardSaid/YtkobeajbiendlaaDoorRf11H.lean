/- What this text holds: a step of a machine and of the document's: they tell the same, and are the same behind it. Condition: the table of limits holds what its initialiser lays. -/
import Derived.Test.YtkobeajbiendlaaDoorRf11D
import Derived.Test.YtkobeajbiendlaaDoorRf11E
import Derived.Deep.RegionHeld3
namespace Go.Proofs.YtkobeajbiendlaaDoor
open Go.RowKit

section
variable {w : World} {lo hi p lo2 hi2 q bL bO bW cl co cw : Nat} {P : Nat → Value} {M : Ma}
set_option maxRecDepth 100000 in
set_option maxHeartbeats 4000000 in
theorem dstep2_any (hm : Mc w lo hi p M) (h : Dk w lo2 hi2 q bL bO bW cl co cw P M) (hg : M.Good) (hr : M.Rng) (hL : Lims w) (hap : hi ≤ lo2) (x : Int) (b : Bool) :
    Calls Tryd.prog 38 #[.pointer (some ⟨p, 0, none⟩), .pointer (some ⟨q, 0, none⟩), .agg #[.int .i64 x, .bool b]] w fun e w' => e = .returned (.bool true) ∧ Mc w' lo hi p (M.stepA x b).2.2 ∧ Dk w' lo2 hi2 q bL bO bW cl co cw P (M.stepA x b).2.2 ∧ Rg lo hi2 w w' := by
  have hb0 : Below w.heap.size w (w.alloc (.cells #[.int .i64 x, .bool b] 81)) := ext_alloc _ (Below.refl _ _)
  have hst := astep_all (hm.ext hb0) hg (hL.ext hb0) x b
  have HB0 := Lib.hid hb0
  have H := Lib.hid h
  have HG := Lib.hid hg
  have HR := Lib.hid hr
  have HN4 := Lib.hid (Ma.n_of hg.1)
  have hsz : hi2 ≤ w.heap.size := h.sz
  have hloq : lo ≤ hi2 := by have := hm.sz; have := h.bd; omega
  have HAP := Lib.hid (show hi ≤ lo2 ∧ hi2 ≤ w.heap.size ∧ lo ≤ hi2 ∧ lo2 ≤ hi2 ∧ lo ≤ hi from ⟨hap, hsz, hloq, by have := h.bd; omega, by have := hm.sz; omega⟩)
  have hnc4 : (M.nc : Int) ≤ 4 := by have := HN4.out; omega
  have HBD := Lib.hid h.bd
  clear hm h hg hr hb0 hap hL
  by_cases hx : x < 0 ∨ (M.nc : Int) ≤ x
  · have e0 : M.stepA x b = (Ev.zero, 10, M) := by unfold Ma.stepA; rw [if_pos hx]
    rw [e0] at hst ⊢
    have HST := Lib.hid hst
    have hz := fun w => eqEvS w 0 0 0 0 0 0 0
    clear hst e0
    cases h0 : decide (x < 0)
    · have h1 : decide (x ≥ (M.nc : Int)) = true := by simp at h0 ⊢; omega
      clear hx
      go_enter Tryd.func38, Tryd.ntmps38
      go_wp2_with fail
      refine HST.out.mono ?_
      rintro e w1 ⟨rfl, hm1, hr1⟩
      have hbx := (hr1.block w.heap.size (by simp) (.inr (by have := HAP.out; omega))).trans (alNew rfl)
      have x0 : w1.cell? ⟨w.heap.size, 0, none⟩ = some (.int .i64 x) := by simp [World.cell?, hbx]
      have x1 : w1.cell? ⟨w.heap.size, 1, none⟩ = some (.bool b) := by simp [World.cell?, hbx]
      have xl := lt_of hbx
      have HTB := Lib.hid hbx
      have hd1 := (H.out.ext HB0.out).rg hr1 (.inr HAP.out.1)
      obtain ⟨t0, _, _⟩ := hd1.tops
      have l1 := hd1.lt.1
      have HE := Lib.hid (And.intro hm1 (And.intro hd1 ((Rg.of_below (lo := lo) (hi := hi2) HB0.out).trans (hr1.mono (Nat.le_refl _) (by have := HAP.out; omega)))))
      clear hm1 hr1 hbx hd1
      go_wp2_with fail
      refine region_past (by kernel_rfl) (by kernel_rfl) ?_; (repeat (go_big_quiet_step (fail))); refine wpQuiet_nil ?_; rintro _ ⟨pw, rfl⟩
      go_wp2_with fail
      go_ret
      have hB : Below w1.heap.size w1 pw.val := ext_past pw (ext_alloc _ (Below.refl _ _))
      exact ⟨rfl, HE.out.1.ext hB, HE.out.2.1.ext hB, HE.out.2.2.extr2 hB⟩
    · clear hx
      go_enter Tryd.func38, Tryd.ntmps38
      go_wp2_with fail
      refine HST.out.mono ?_
      rintro e w1 ⟨rfl, hm1, hr1⟩
      have hbx := (hr1.block w.heap.size (by simp) (.inr (by have := HAP.out; omega))).trans (alNew rfl)
      have x0 : w1.cell? ⟨w.heap.size, 0, none⟩ = some (.int .i64 x) := by simp [World.cell?, hbx]
      have x1 : w1.cell? ⟨w.heap.size, 1, none⟩ = some (.bool b) := by simp [World.cell?, hbx]
      have xl := lt_of hbx
      have HTB := Lib.hid hbx
      have hd1 := (H.out.ext HB0.out).rg hr1 (.inr HAP.out.1)
      obtain ⟨t0, _, _⟩ := hd1.tops
      have l1 := hd1.lt.1
      have HE := Lib.hid (And.intro hm1 (And.intro hd1 ((Rg.of_below (lo := lo) (hi := hi2) HB0.out).trans (hr1.mono (Nat.le_refl _) (by have := HAP.out; omega)))))
      clear hm1 hr1 hbx hd1
      go_wp2_with fail
      refine region_past (by kernel_rfl) (by kernel_rfl) ?_; (repeat (go_big_quiet_step (fail))); refine wpQuiet_nil ?_; rintro _ ⟨pw, rfl⟩
      go_wp2_with fail
      go_ret
      have hB : Below w1.heap.size w1 pw.val := ext_past pw (ext_alloc _ (Below.refl _ _))
      exact ⟨rfl, HE.out.1.ext hB, HE.out.2.1.ext hB, HE.out.2.2.extr2 hB⟩
  obtain ⟨i, rfl, hi'⟩ := nat_of hx
  have h0 : decide ((i : Int) < 0) = false := by simp
  have h1 : decide ((i : Int) ≥ (M.nc : Int)) = false := by simp; omega
  have h1' : decide (M.nc ≤ i) = false := by simp; omega
  have hi4 : (i : Int) ≤ 4 := by omega
  have hov := fun W h => dover_any (w := W) (lo := lo2) (hi := hi2) (q := q) (bL := bL) (bO := bO) (bW := bW) (cl := cl) (co := co) (cw := cw) (P := P) (M := M) h HG.out i hi' (HR.out.a i hi')
  rw [← (HG.out.2 i hi').2] at hov
  clear hx
  cases ho : (M.se i).ov
  case true =>
    · have e0 : M.stepA i b = (Ev.zero, 20, M) := by unfold Ma.stepA; rw [if_neg (by omega), Int.toNat_natCast, ho]; rfl
      rw [e0] at hst ⊢
      rw [ho] at hov
      have HST := Lib.hid hst
      have HOV := Lib.hid hov
      have hz := fun w => eqEvS w 0 0 0 0 0 0 0
      clear hst e0 hov ho hi'
      go_enter Tryd.func38, Tryd.ntmps38
      go_wp2_with fail
      refine HST.out.mono ?_
      rintro e w1 ⟨rfl, hm1, hr1⟩
      have hbx := (hr1.block w.heap.size (by simp) (.inr (by have := HAP.out; omega))).trans (alNew rfl)
      have x0 : w1.cell? ⟨w.heap.size, 0, none⟩ = some (.int .i64 i) := by simp [World.cell?, hbx]
      have x1 : w1.cell? ⟨w.heap.size, 1, none⟩ = some (.bool b) := by simp [World.cell?, hbx]
      have xl := lt_of hbx
      have HTB := Lib.hid hbx
      have hd1 := (H.out.ext HB0.out).rg hr1 (.inr HAP.out.1)
      obtain ⟨t0, _, _⟩ := hd1.tops
      have l1 := hd1.lt.1
      have HE := Lib.hid (And.intro hm1 (And.intro hd1 ((Rg.of_below (lo := lo) (hi := hi2) HB0.out).trans (hr1.mono (Nat.le_refl _) (by have := HAP.out; omega)))))
      clear hm1 hr1 hbx hd1
      go_wp2_with fail
      refine region_past (by kernel_rfl) (by kernel_rfl) ?_; (repeat (go_big_quiet_step (fail))); refine wpQuiet_nil ?_; rintro _ ⟨pw, rfl⟩
      have hB : Below w1.heap.size w1 pw.val := ext_past pw (ext_alloc _ (Below.refl _ _))
      have HB := Lib.hid hB
      clear hB
      go_wp2_with fail
      refine (HOV.out _ (HE.out.2.1.ext HB.out)).mono ?_
      rintro e w2 ⟨rfl, hb2⟩
      have ev := (hb2.block _ (Nat.lt_of_lt_of_le (by simp) pw.below.size)).trans ((pw.below.block w1.heap.size (by simp)).trans (alNew rfl))
      obtain ⟨v0, v1, v2, v3, v4, v5, v6, vf, vl⟩ := ev_cells ev
      have HB2 := Lib.hid (ext_trans HB.out hb2)
      clear hb2 ev
      go_wp2_with fail
      go_ret
      exact ⟨rfl, HE.out.1.ext HB2.out, HE.out.2.1.ext HB2.out, HE.out.2.2.extr2 HB2.out⟩
  case false =>
    · obtain ⟨S, hS⟩ : ∃ S, S = M.step i b := ⟨_, rfl⟩
      have e0 : M.stepA i b = (S.1, 0, S.2) := by unfold Ma.stepA; rw [if_neg (by omega), Int.toNat_natCast, ho, hS]; rfl
      rw [e0] at hst ⊢
      have hds := fun W h => dstep_any (w := W) (lo := lo2) (hi := hi2) (q := q) (bL := bL) (bO := bO) (bW := bW) (cl := cl) (co := co) (cw := cw) (P := P) (M := M) h HG.out HR.out i hi' ho b
      rw [← hS] at hds
      rw [ho] at hov
      obtain ⟨⟨eco, ea, eop, ewo, ewd, eva, ecd⟩, N⟩ := S
      have HST := Lib.hid hst
      have HOV := Lib.hid hov
      have HDS := Lib.hid hds
      have HDE := Lib.hid (fun W => devent_same eco ea eop ewo ewd eva ecd W)
      clear hst e0 hov ho hi' hds hS
      go_enter Tryd.func38, Tryd.ntmps38
      go_wp2_with fail
      refine HST.out.mono ?_
      rintro e w1 ⟨rfl, hm1, hr1⟩
      have hbx := (hr1.block w.heap.size (by simp) (.inr (by have := HAP.out; omega))).trans (alNew rfl)
      have x0 : w1.cell? ⟨w.heap.size, 0, none⟩ = some (.int .i64 i) := by simp [World.cell?, hbx]
      have x1 : w1.cell? ⟨w.heap.size, 1, none⟩ = some (.bool b) := by simp [World.cell?, hbx]
      have xl := lt_of hbx
      have HTB := Lib.hid hbx
      have hd1 := (H.out.ext HB0.out).rg hr1 (.inr HAP.out.1)
      obtain ⟨t0, _, _⟩ := hd1.tops
      have l1 := hd1.lt.1
      have HE := Lib.hid (And.intro hm1 (And.intro hd1 ((Rg.of_below (lo := lo) (hi := hi2) HB0.out).trans (hr1.mono (Nat.le_refl _) (by have := HAP.out; omega)))))
      clear hm1 hr1 hbx hd1
      go_wp2_with fail
      refine region_past (by kernel_rfl) (by kernel_rfl) ?_; (repeat (go_big_quiet_step (fail))); refine wpQuiet_nil ?_; rintro _ ⟨pw, rfl⟩
      have hB : Below w1.heap.size w1 pw.val := ext_past pw (ext_alloc _ (Below.refl _ _))
      have HB := Lib.hid hB
      clear hB
      go_wp2_with fail
      refine (HOV.out _ (HE.out.2.1.ext HB.out)).mono ?_
      rintro e w2 ⟨rfl, hb2⟩
      have HB2 := Lib.hid (ext_trans HB.out hb2)
      have hev := (hb2.block _ (Nat.lt_of_lt_of_le (by simp) pw.below.size)).trans ((pw.below.block w1.heap.size (by simp)).trans (alNew rfl))
      have htb := ((HB2.out.block _ xl).trans (show w1.heap[w.heap.size]? = some (.cells #[.int .i64 i, .bool b] 81 (0, 0)) from HTB.out))
      have HBX := Lib.hid (And.intro hev htb)
      have HDQ := Lib.hid (HE.out.2.1.ext HB2.out)
      have HSZ := Lib.hid (show hi2 ≤ w.heap.size ∧ w.heap.size < w1.heap.size ∧ w1.heap.size < w2.heap.size from ⟨HAP.out.2.1, xl, lt_of hev⟩)
      have HQ := Lib.hid (fun (V : World) (hr : Rg lo2 hi2 w2 V) => show V.cell? ⟨w1.heap.size, 0, none⟩ = some (.int .i64 eco) ∧ V.cell? ⟨w1.heap.size, 1, none⟩ = some (.int .i64 ea) ∧ V.cell? ⟨w1.heap.size, 2, none⟩ = some (.int .i64 eop) ∧ V.cell? ⟨w1.heap.size, 3, none⟩ = some (.int .i64 ewo) ∧ V.cell? ⟨w1.heap.size, 4, none⟩ = some (.int .i64 ewd) ∧ V.cell? ⟨w1.heap.size, 5, none⟩ = some (.int .i64 eva) ∧ V.cell? ⟨w1.heap.size, 6, none⟩ = some (.int .i64 ecd) ∧ V.cell? ⟨w.heap.size, 0, none⟩ = some (.int .i64 i) ∧ V.cell? ⟨w.heap.size, 1, none⟩ = some (.bool b) from by
        have h1 := (hr.block w1.heap.size (by have := HSZ.out; omega) (.inr (by have := HSZ.out; omega))).trans HBX.out.1
        have h2 := (hr.block w.heap.size (by have := HSZ.out; omega) (.inr (by have := HSZ.out; omega))).trans HBX.out.2
        obtain ⟨v0, v1, v2, v3, v4, v5, v6, vf, vl⟩ := ev_cells h1
        exact ⟨v0, v1, v2, v3, v4, v5, v6, by simp [World.cell?, h2], by simp [World.cell?, h2]⟩)
      clear hb2 hev htb x0 x1 xl t0 l1
      go_wp2_with fail
      have QQ := HQ.out w2.drew (Rg.of_below (ext_drew (Below.refl _ w2)))
      go_region_held3 (fun w' => w'.cell? ⟨w1.heap.size, 0, none⟩ = some (.int .i64 eco) ∧ w'.cell? ⟨w1.heap.size, 1, none⟩ = some (.int .i64 ea) ∧ w'.cell? ⟨w1.heap.size, 2, none⟩ = some (.int .i64 eop) ∧ w'.cell? ⟨w1.heap.size, 3, none⟩ = some (.int .i64 ewo) ∧ w'.cell? ⟨w1.heap.size, 4, none⟩ = some (.int .i64 ewd) ∧ w'.cell? ⟨w1.heap.size, 5, none⟩ = some (.int .i64 eva) ∧ w'.cell? ⟨w1.heap.size, 6, none⟩ = some (.int .i64 ecd) ∧ w'.cell? ⟨w.heap.size, 0, none⟩ = some (.int .i64 i) ∧ w'.cell? ⟨w.heap.size, 1, none⟩ = some (.bool b))
        (exact QQ)
        (first
          | (go_at_call 63; refine (HDS.out w2.drew (HDQ.out.ext (ext_drew (Below.refl _ w2)))).mono ?_; rintro e w5 ⟨rfl, hd5, hr5⟩; have HR5 := Lib.hid (show Dk w5 lo2 hi2 q bL bO bW cl co cw P N ∧ Rg lo2 hi2 w2 w5 from ⟨hd5, (Rg.of_below (ext_drew (Below.refl _ w2))).trans hr5⟩); have QQ := HQ.out w5 HR5.out.2; clear hd5 hr5)
          | (go_at_call 62; refine (HDE.out w5).mono ?_; rintro e w6 ⟨rfl, hb6⟩; have HR6 := Lib.hid (show Dk w6 lo2 hi2 q bL bO bW cl co cw P N ∧ Rg lo2 hi2 w2 w6 from ⟨HR5.out.1.ext hb6, HR5.out.2.extr2 hb6⟩); have QQ := HQ.out w6 HR6.out.2; clear hb6))
      clear QQ
      go_wp2_with fail
      go_ret
      exact ⟨rfl, (HE.out.1.ext HB2.out).rg HR6.out.2 (.inl HAP.out.1), HR6.out.1, (HE.out.2.2.extr2 HB2.out).trans (HR6.out.2.mono (by have := HAP.out; have := HBD.out; omega) (Nat.le_refl _))⟩
end
end Go.Proofs.YtkobeajbiendlaaDoor
