/- What this text holds: plain laws of a machine's step: what busy counts for, and what a step leaves. No condition. -/
import Derived.Test.YtkobeajbiendlaaDoorAtmT
namespace Go.Proofs.YtkobeajbiendlaaDoor
open Go.RowKit

/-- The codes of a judgement. -/
theorem judge_code (ca wo o tw : Int) : (judge ca wo o tw).2.2 ≠ 17 ∧ (judge ca wo o tw).2.2 ≠ 19 := by
  unfold judge
  (repeat' split) <;> simp
/-- Does a step call the monitor about a granule that there is? -/
def Ma.lockd (M : Ma) (i : Nat) : Prop := (atI (M.se i).ps (M.se i).a.toNat).op = 8 ∧ 0 ≤ (M.se i).r (atI (M.se i).ps (M.se i).a.toNat).b.toNat ∧ (M.se i).r (atI (M.se i).ps (M.se i).a.toNat).b.toNat < (M.ng : Int)
theorem step_free (M : Ma) (i : Nat) (h : ¬ M.lockd i) : M.step i true = M.step i false := by
  unfold Ma.step
  dsimp only
  by_cases h8 : (atI (M.se i).ps (M.se i).a.toNat).op = 8
  · have hr : (M.se i).r (atI (M.se i).ps (M.se i).a.toNat).b.toNat < 0 ∨ (M.ng : Int) ≤ (M.se i).r (atI (M.se i).ps (M.se i).a.toNat).b.toNat := by
      apply Classical.byContradiction
      intro hn
      exact h ⟨h8, by omega, by omega⟩
    have hc : ∀ b, M.call (atI (M.se i).ps (M.se i).a.toNat).a (M.se i).wo ((M.se i).r (atI (M.se i).ps (M.se i).a.toNat).b.toNat) ((M.se i).r (atI (M.se i).ps (M.se i).a.toNat).c.toNat) b = (10, M) := fun b => by unfold Ma.call; rw [if_pos hr]
    rw [hc, hc]
  · (repeat' split) <;> first | rfl | (exfalso; omega)
/-- The event's parts but its code do not hang on busy. -/
theorem step_ev (M : Ma) (i : Nat) (b : Bool) : (M.step i b).1.co = i ∧ (M.step i b).1.a = (M.se i).a ∧ (M.step i b).1.op = (atI (M.se i).ps (M.se i).a.toNat).op ∧ (M.step i b).1.wo = (M.se i).wo ∧ (M.step i b).1.wd = (M.step i false).1.wd ∧ (M.step i b).1.va = (M.step i false).1.va := by
  unfold Ma.step
  dsimp only
  (repeat' split) <;> exact ⟨rfl, rfl, rfl, rfl, rfl, rfl⟩
theorem step_wd8 (M : Ma) (i : Nat) (b : Bool) (h8 : (atI (M.se i).ps (M.se i).a.toNat).op = 8) : (M.step i b).1.wd = (M.se i).r (atI (M.se i).ps (M.se i).a.toNat).b.toNat := by
  unfold Ma.step
  dsimp only
  rw [if_neg (by omega), if_neg (by omega), if_neg (by omega), if_neg (by omega), if_pos h8]
/-- A call that finds its granule locked. -/
theorem step_locked (M : Ma) (i : Nat) (h : M.lockd i) : (M.step i true).1.cd = 17 ∧ (M.step i true).2.ow = M.ow ∧ (M.step i true).2.m = M.m := by
  obtain ⟨h8, h0, h1⟩ := h
  unfold Ma.step
  dsimp only
  rw [if_neg (by omega), if_neg (by omega), if_neg (by omega), if_neg (by omega), if_pos h8]
  have hc : M.call (atI (M.se i).ps (M.se i).a.toNat).a (M.se i).wo ((M.se i).r (atI (M.se i).ps (M.se i).a.toNat).b.toNat) ((M.se i).r (atI (M.se i).ps (M.se i).a.toNat).c.toNat) true = (17, M) := by unfold Ma.call; rw [if_neg (by omega), if_pos rfl]
  rw [hc]
  exact ⟨rfl, rfl, rfl⟩
theorem acc_code (M : Ma) (i : Nat) (x : Ins) : (M.acc i x).2.1 = 0 ∨ ((M.acc i x).2.1 = 19 ∧ (M.acc i x).2.2 = M) := by
  unfold Ma.acc
  dsimp only
  (repeat' split) <;> first | exact .inl rfl | exact .inr ⟨rfl, rfl⟩
theorem call_code (M : Ma) (ca wo gr tw : Int) : (M.call ca wo gr tw false).1 ≠ 17 ∧ (M.call ca wo gr tw false).1 ≠ 19 := by
  unfold Ma.call
  have hj := judge_code ca wo (M.ow gr.toNat) tw
  split
  · simp
  · rw [if_neg (by decide)]
    dsimp only
    split
    · exact hj
    · simp
/-- Without busy no step is told that it is locked. -/
theorem step_free_code (M : Ma) (i : Nat) : (M.step i false).1.cd ≠ 17 := by
  unfold Ma.step
  dsimp only
  have ha := acc_code M i (atI (M.se i).ps (M.se i).a.toNat)
  have hc := call_code M (atI (M.se i).ps (M.se i).a.toNat).a (M.se i).wo ((M.se i).r (atI (M.se i).ps (M.se i).a.toNat).b.toNat) ((M.se i).r (atI (M.se i).ps (M.se i).a.toNat).c.toNat)
  (repeat' split) <;> first | (show (0 : Int) ≠ 17; decide) | (show (18 : Int) ≠ 17; decide) | (show (M.acc i _).2.1 ≠ 17; omega) | exact hc.1
/-- Is a step a call of a granule that there is? -/
def lockB (e : Ev) (f ng : Int) : Bool := (((f == 0) && (e.op == 8)) && decide (0 ≤ e.wd)) && decide (e.wd < ng)
theorem lock_cases (e : Ev) (f ng : Int) : (lockB e f ng = true ∧ (f == 0) = true ∧ (e.op == 8) = true ∧ decide (e.wd ≥ 0) = true ∧ decide (e.wd < ng) = true) ∨ (lockB e f ng = false ∧ (f == 0) = false) ∨ (lockB e f ng = false ∧ (f == 0) = true ∧ (e.op == 8) = false) ∨
    (lockB e f ng = false ∧ (f == 0) = true ∧ (e.op == 8) = true ∧ decide (e.wd ≥ 0) = false) ∨ (lockB e f ng = false ∧ (f == 0) = true ∧ (e.op == 8) = true ∧ decide (e.wd ≥ 0) = true ∧ decide (e.wd < ng) = false) := by
  unfold lockB
  have hge : decide (e.wd ≥ 0) = decide (0 ≤ e.wd) := rfl
  rw [hge]
  cases (f == 0) <;> cases (e.op == 8) <;> cases decide (0 ≤ e.wd) <;> cases decide (e.wd < ng) <;> simp
theorem ownA_eq {M N : Ma} (h : N.ow = M.ow) (hc : N.m.c = M.m.c) (x : Int) : N.ownA x = M.ownA x := by
  unfold Ma.ownA Ma.ng
  rw [h, hc]
theorem getA_eq {M N : Ma} (h : N.m = M.m) (x : Int) : N.getA x = M.getA x := by
  unfold Ma.getA
  rw [h]
theorem busy_ev (M : Ma) (x : Int) : ∃ (co a op wo wd va d1 d2 f : Int) (M1 M2 : Ma), M.stepA x true = (⟨co, a, op, wo, wd, va, d1⟩, f, M1) ∧ M.stepA x false = (⟨co, a, op, wo, wd, va, d2⟩, f, M2) ∧ d2 ≠ 17 ∧
    (lockB ⟨co, a, op, wo, wd, va, d1⟩ f M.ng = true → d1 = 17 ∧ M1.ow = M.ow ∧ M1.m = M.m) ∧ (lockB ⟨co, a, op, wo, wd, va, d1⟩ f M.ng = false → d1 = d2 ∧ M1 = M2) := by
  unfold Ma.stepA
  split
  · exact ⟨0, 0, 0, 0, 0, 0, 0, 0, 10, M, M, rfl, rfl, by decide, fun h => by simp [lockB] at h, fun _ => ⟨rfl, rfl⟩⟩
  split
  · exact ⟨0, 0, 0, 0, 0, 0, 0, 0, 20, M, M, rfl, rfl, by decide, fun h => by simp [lockB] at h, fun _ => ⟨rfl, rfl⟩⟩
  obtain ⟨q1, q2, q3, q4, q5, q6⟩ := step_ev M x.toNat true
  obtain ⟨r1, r2, r3, r4, _, _⟩ := step_ev M x.toNat false
  have h17 := step_free_code M x.toNat
  have hfree := step_free M x.toNat
  have hlock := step_locked M x.toNat
  have hwd := step_wd8 M x.toNat false
  refine ⟨(M.step x.toNat false).1.co, (M.step x.toNat false).1.a, (M.step x.toNat false).1.op, (M.step x.toNat false).1.wo, (M.step x.toNat false).1.wd, (M.step x.toNat false).1.va, (M.step x.toNat true).1.cd, (M.step x.toNat false).1.cd, 0, (M.step x.toNat true).2, (M.step x.toNat false).2, ?_, rfl, h17, fun h => ?_, fun h => ?_⟩
  · rw [← q1.trans r1.symm, ← q2.trans r2.symm, ← q3.trans r3.symm, ← q4.trans r4.symm, ← q5, ← q6]
  · simp only [lockB, Bool.and_eq_true, decide_eq_true_eq, beq_iff_eq] at h
    obtain ⟨⟨⟨_, h8⟩, h0⟩, h1⟩ := h
    rw [r3] at h8
    rw [hwd h8] at h0 h1
    exact hlock ⟨h8, h0, h1⟩
  · have : ¬ M.lockd x.toNat := fun ⟨h8, h0, h1⟩ => by
      rw [← r3] at h8
      rw [← hwd (by rw [← r3]; exact h8)] at h0 h1
      simp [lockB, h8, h0, h1] at h
    rw [hfree this]
    exact ⟨rfl, rfl⟩
end Go.Proofs.YtkobeajbiendlaaDoor
