/- What this text holds: the document's machine: whether a core is over, what it may have, what a call does. No condition. -/
import Derived.Test.YtkobeajbiendlaaDoorRf11
import Derived.Test.YtkobeajbiendlaaDoorPl11D
import Derived.Test.YtkobeajbiendlaaDoorAto
import Derived.Deep.CutRange
namespace Go.Proofs.YtkobeajbiendlaaDoor
open Go.RowKit

section
variable {w : World} {lo hi q bL bO bW cl co cw : Nat} {P : Nat → Value} {M : Ma}
set_option maxRecDepth 100000 in
set_option maxHeartbeats 2000000 in
theorem dover_any (h : Dk w lo hi q bL bO bW cl co cw P M) (hg : M.Good) (i : Nat) (hi' : i < M.nc) (ha : 0 ≤ (M.se i).a) :
    Calls Tryd.prog 60 #[.pointer (some ⟨q, 0, none⟩), .int .i64 i] w fun e w' => e = .returned (.bool (endB (M.se i).ps (M.se i).a)) ∧ Below w.heap.size w w' := by
  obtain ⟨t0, t1, t2⟩ := h.tops
  obtain ⟨k0, k1, k2, k3, k4, k5, k6, _⟩ := h.core i hi'
  obtain ⟨l1, l2, l3, l4⟩ := h.lt
  obtain ⟨A, c, hP, hS, hn⟩ := (h.pg i hi').1
  have hn4 := Ma.n_of hg.1
  have hic : (i : Int) < (M.nc : Int) := by omega
  have hi4 : (i : Int) ≤ 4 := by omega
  obtain ⟨ka, hka⟩ : ∃ ka : Nat, (M.se i).a = ka := ⟨(M.se i).a.toNat, by omega⟩
  have hl32 := (hg.2 i hi').1.1
  rw [hP] at k0
  rw [hka] at k5 ⊢
  generalize (M.se i).ps = ps at hS hl32 k0 hn ⊢
  have hps : (ps.length : Int) ≤ 32 := by omega
  clear hn4
  by_cases hlt : ka < ps.length
  · obtain ⟨b, off, hA, hb, hc⟩ := hS (by omega)
    have hop := (hc ka hlt).1
    have he : endB ps (ka : Int) = ((atI ps ka).op == 11) := by
      unfold endB
      rw [Int.toNat_natCast, show decide ((ka : Int) < 0) = false by simp, show decide ((ps.length : Int) ≤ (ka : Int)) = false by simp; omega]
      rfl
    rw [he]
    have e1 : decide (ps.length ≤ ka) = false := by simpa using hlt
    have e2 : decide ((ka : Int) ≥ (ps.length : Int)) = false := by simp; omega
    have hkl : (ka : Int) < (ps.length : Int) := by omega
    have hk32 : (ka : Int) ≤ 32 := by omega
    generalize (atI ps ka).op = xo at hop ⊢
    subst hA
    clear he hlt hl32 hka hP hS hn hc ha
    go_enter Tryd.func60, Tryd.ntmps60
    go_wp2_with fail
    go_ret
    exact ⟨rfl, (by repeat (with_reducible first | exact Below.refl _ _ | assumption | (refine ext_next (by assumption) ?_) | apply ext_alloc | apply ext_past | apply ext_drew | apply ext_drewN))⟩
  · have he : endB ps (ka : Int) = true := by
      unfold endB
      rw [show decide ((ps.length : Int) ≤ (ka : Int)) = true by simp; omega]
      simp
    rw [he]
    have e1 : decide (ps.length ≤ ka) = true := by simp; omega
    have e2 : decide ((ka : Int) ≥ (ps.length : Int)) = true := by simp; omega
    clear he hlt hl32 hka hP hS hn ha
    go_enter Tryd.func60, Tryd.ntmps60
    go_wp2_with fail
    go_ret
    exact ⟨rfl, (by repeat (with_reducible first | exact Below.refl _ _ | assumption | (refine ext_next (by assumption) ?_) | apply ext_alloc | apply ext_past | apply ext_drew | apply ext_drewN))⟩
set_option maxRecDepth 100000 in
set_option maxHeartbeats 2000000 in
theorem dmay_any (h : Dk w lo hi q bL bO bW cl co cw P M) (hg : M.Good) (hr : M.Rng) (wo : Int) (hwo : 0 ≤ wo ∧ wo ≤ 3) (wd : Int) :
    Calls Tryd.prog 80 #[.pointer (some ⟨q, 0, none⟩), .int .i64 wo, .int .i64 wd] w fun e w' => e = .returned (.bool (M.may wo wd)) ∧ w' = w := by
  obtain ⟨t0, t1, t2⟩ := h.tops
  obtain ⟨l1, l2, l3, l4⟩ := h.lt
  have hn4 := Ma.n_of hg.1
  by_cases h0 : wd < 0
  · have hm : M.may wo wd = false := by unfold Ma.may; simp; omega
    rw [hm]
    have e1 : decide (wd < 0) = true := by simpa using h0
    clear hm h0 hn4
    go_enter Tryd.func80, Tryd.ntmps80
    go_wp2_with fail
    go_ret
    exact ⟨rfl, rfl⟩
  have e1 : decide (wd < 0) = false := by simpa using h0
  obtain ⟨kw, rfl⟩ : ∃ kw : Nat, wd = kw := ⟨wd.toNat, by omega⟩
  obtain ⟨N2, hN2⟩ : ∃ N, N = 2 * M.m.n := ⟨_, rfl⟩
  rw [← hN2] at t2
  by_cases h2 : kw < N2
  case neg =>
    have hm : M.may wo kw = false := by unfold Ma.may; simp; omega
    rw [hm]
    have e2 : decide ((kw : Int) ≥ (N2 : Int)) = true := by simp; omega
    have e3 : decide (N2 ≤ kw) = true := by simp; omega
    clear hm h0 h2 hN2 hn4
    go_enter Tryd.func80, Tryd.ntmps80
    go_wp2_with fail
    go_ret
    exact ⟨rfl, rfl⟩
  have e2 : decide ((kw : Int) ≥ (N2 : Int)) = false := by simp; omega
  have e3 : decide (N2 ≤ kw) = false := by simp; omega
  obtain ⟨jd, hjd⟩ : ∃ j, j = kw / 4 := ⟨_, rfl⟩
  have hq : (kw : Int) / 4 = (jd : Int) := by omega
  have hjl : jd < M.ng := by omega
  have hjl' : (jd : Int) < (M.ng : Int) := by omega
  have ho := (h.own jd hjl).1
  have hk64 : (kw : Int) ≤ 64 := by omega
  have hor := hr.ow jd hjl
  have hm : M.may wo kw = ((wo == 0 || M.ow jd == wo) || M.ow jd == 4) := by
    unfold Ma.may mayT
    rw [Int.toNat_natCast, ← hjd]
    have a1 : decide ((0 : Int) ≤ (kw : Int)) = true := by simp
    have a2 : decide ((kw : Int) < 2 * (M.m.n : Int)) = true := by simp; omega
    have a3 : decide ((0 : Int) ≤ wo) = true := by simp; omega
    have a4 : decide (wo ≤ 3) = true := by simp; omega
    have a5 : decide ((0 : Int) ≤ M.ow jd) = true := by simp; omega
    have a6 : decide (M.ow jd ≤ 4) = true := by simp; omega
    rw [a1, a2, a3, a4, a5, a6]
    simp
  rw [hm]
  generalize M.ow jd = ov at ho ⊢
  clear hm hor hjl hjd h2 hN2 h0 hn4
  cases w0 : (wo == 0)
  · cases w1 : (ov == wo)
    · go_enter Tryd.func80, Tryd.ntmps80
      go_wp2_with fail
      go_ret
      exact ⟨rfl, rfl⟩
    · go_enter Tryd.func80, Tryd.ntmps80
      go_wp2_with fail
      go_ret
      exact ⟨rfl, rfl⟩
  · go_enter Tryd.func80, Tryd.ntmps80
    go_wp2_with fail
    go_ret
    exact ⟨rfl, rfl⟩
end
end Go.Proofs.YtkobeajbiendlaaDoor
