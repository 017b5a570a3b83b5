/- What this text holds: plain laws of a core beside a machine's core 0: both do the same, step by step. No condition. -/
import Derived.Test.YtkobeajbiendlaaDoorAtmT
import Derived.Test.YtkobeajbiendlaaDoorCorF
import Derived.Test.YtkobeajbiendlaaDoorPl11B
namespace Go.Proofs.YtkobeajbiendlaaDoor
open Go.RowKit

/-- A core and the machine's core 0 are the same. -/
structure Ag (s : CoS) (M : Ma) : Prop where
  ps : (M.se 0).ps = s.ps
  a : (M.se 0).a = s.a
  wo : (M.se 0).wo = s.wo
  r : ∀ i, i < 4 → (M.se 0).r i = s.r i
/-- The register that an instruction writes; -1 of none. -/
def wrI (x : Ins) : Int := if x.op = 8 then x.b else if x.op ≤ 3 ∨ x.op = 5 then x.a else -1
/-- Where a core is behind an instruction. -/
def toI (s : CoS) (x : Ins) : Int := if x.op = 10 ∧ s.r x.a.toNat = 0 then x.b else if x.op = 9 then x.a else s.a + 1
/-- What a step leaves, and tells. -/
structure Stp (s s' : CoS) (e : Ev) (x : Ins) : Prop where
  ps : s'.ps = s.ps
  ov : s'.ov = endB s'.ps s'.a
  a : s'.a = toI s x
  wo : x.op ≠ 7 → s'.wo = s.wo
  r : ∀ i : Nat, i < 4 → (i : Int) ≠ wrI x → s'.r i = s.r i
  ea : e.a = s.a
  ewo : e.wo = s.wo
  eop : e.op = x.op
theorem upd_updN {f g : Nat → Int} (h : ∀ i, i < 4 → f i = g i) (k : Nat) (v : Int) : ∀ i, i < 4 → updN f k v i = upd g k v i := fun i hi => by
  unfold upd
  by_cases hk : i = k
  · rw [if_pos hk, hk, updN_same]
  · rw [if_neg hk, updN_ne _ _ hk, h i hi]
theorem Ag.turn {s : CoS} {M : Ma} {a : Int} {o : Bool} (h : Ag s M) : Ag { s with a := a, ov := o } (M.turn 0 a) := by
  have e : (M.turn 0 a).se 0 = ⟨(M.se 0).r, a, (M.se 0).wo, endB (M.se 0).ps a, (M.se 0).ps⟩ := by
    show updN M.se 0 _ 0 = _
    exact updN_same _ _ _
  exact ⟨by rw [e]; exact h.ps, by rw [e], by rw [e]; exact h.wo, by rw [e]; exact h.r⟩
theorem Ag.reg {s : CoS} {M : Ma} (h : Ag s M) (k : Nat) (v : Int) : Ag { s with r := upd s.r k v } (M.setReg 0 k v) := by
  have e : (M.setReg 0 k v).se 0 = ⟨updN (M.se 0).r k v, (M.se 0).a, (M.se 0).wo, (M.se 0).ov, (M.se 0).ps⟩ := by
    show updN M.se 0 _ 0 = _
    exact updN_same _ _ _
  exact ⟨by rw [e]; exact h.ps, by rw [e]; exact h.a, by rw [e]; exact h.wo, by rw [e]; exact upd_updN h.r k v⟩
theorem Ag.world {s : CoS} {M : Ma} (h : Ag s M) (v : Int) : Ag { s with wo := v } (M.setWo 0 v) := by
  have e : (M.setWo 0 v).se 0 = ⟨(M.se 0).r, (M.se 0).a, v, (M.se 0).ov, (M.se 0).ps⟩ := by
    show updN M.se 0 _ 0 = _
    exact updN_same _ _ _
  exact ⟨by rw [e]; exact h.ps, by rw [e]; exact h.a, by rw [e], by rw [e]; exact h.r⟩
theorem Ag.same {s : CoS} {M N : Ma} (h : Ag s M) (e : N.se = M.se) : Ag s N := ⟨by rw [e]; exact h.ps, by rw [e]; exact h.a, by rw [e]; exact h.wo, by rw [e]; exact h.r⟩
theorem Ag.mem {s : CoS} {M : Ma} (h : Ag s M) (m : Mm) : Ag s { M with m := m } := h.same rfl

theorem loc_stp {s : CoS} {M : Ma} (h : Ag s M) (hg : GoodP s.ps) (hl : isLoc s = true) (b : Bool) : Stp s (locS s) (locE s) (atI s.ps s.a.toNat) ∧ Ag (locS s) (M.step 0 b).2 := by
  unfold isLoc at hl
  simp only [Bool.and_eq_true, Bool.not_eq_true'] at hl
  obtain ⟨he, ho⟩ := hl
  obtain ⟨k, hk, hkl, _⟩ := endB_no he
  have ek : s.a.toNat = k := by omega
  obtain ⟨x, hx, x1, x12, g1, g2, _, _, g9, g10, g7⟩ := good_at hg hkl
  have hx' : atI s.ps s.a.toNat = x := by rw [ek]; exact hx
  have hM : atI (M.se 0).ps (M.se 0).a.toNat = x := by rw [h.ps, h.a]; exact hx'
  rw [hx'] at ho ⊢
  obtain ⟨xo, xa, xb, xc⟩ := x
  dsimp only at *
  dsimp only [locOp] at ho
  simp only [Bool.or_eq_true, beq_iff_eq] at ho
  have ha := h.a
  unfold Ma.step locS locE
  dsimp only
  rw [hM, hx']
  dsimp only
  rcases ho with ((((rfl | rfl) | rfl) | rfl) | rfl) | rfl
  · obtain ⟨i, rfl, hi⟩ := g1 (.inl rfl)
    refine ⟨⟨rfl, rfl, by simp [locN, toI], fun _ => by simp, fun j hj hne => ?_, rfl, rfl, rfl⟩, ?_⟩
    · have hne' : j ≠ i := fun e => hne (by simp [wrI, e])
      simp [locR, upd, hne']
    · rw [if_pos rfl, ha]
      simp only [locR, locN, locVal]
      exact (h.reg i xb).turn
  · obtain ⟨i, j, n, rfl, rfl, rfl, hi, hj, hn⟩ := g2 rfl
    refine ⟨⟨rfl, rfl, by simp [locN, toI], fun _ => by simp, fun q hq hne => ?_, rfl, rfl, rfl⟩, ?_⟩
    · have hne' : q ≠ i := fun e => hne (by simp [wrI, e])
      simp [locR, upd, hne']
    · rw [if_neg (by simp), if_pos rfl, ha, h.r _ (by simpa using hj), h.r _ (by simpa using hn)]
      exact (h.reg i _).turn
  · refine ⟨⟨rfl, rfl, by simp [locN, toI], fun _ => by simp, fun j hj hne => by simp [locR], rfl, rfl, rfl⟩, ?_⟩
    simp only [show ¬ ((6 : Int) = 1) by decide, show ¬ ((6 : Int) = 2) by decide, show ¬ ((6 : Int) = 3 ∨ (6 : Int) = 4 ∨ (6 : Int) = 5) by decide, show ¬ ((6 : Int) = 7) by decide, show ¬ ((6 : Int) = 8) by decide, show ¬ ((6 : Int) = 9) by decide, show ¬ ((6 : Int) = 10) by decide, if_false, ha]
    have := h.turn (a := s.a + 1) (o := endB s.ps (s.a + 1))
    simpa [locR, locN] using this
  · refine ⟨⟨rfl, rfl, by simp [locN, toI], fun hn => absurd rfl hn, fun j hj hne => by simp [locR], rfl, rfl, rfl⟩, ?_⟩
    simp only [show ¬ ((7 : Int) = 1) by decide, show ¬ ((7 : Int) = 2) by decide, show ¬ ((7 : Int) = 3 ∨ (7 : Int) = 4 ∨ (7 : Int) = 5) by decide, if_true, if_false, ha, h.wo]
    by_cases hw : s.wo = 0
    · have := (h.world xa).turn (a := s.a + 1) (o := endB s.ps (s.a + 1))
      simpa [locR, locN, hw] using this
    · have := h.turn (a := s.a + 1) (o := endB s.ps (s.a + 1))
      simpa [locR, locN, hw] using this
  · refine ⟨⟨rfl, rfl, by simp [locN, toI], fun _ => by simp, fun j hj hne => by simp [locR], rfl, rfl, rfl⟩, ?_⟩
    simp only [show ¬ ((9 : Int) = 1) by decide, show ¬ ((9 : Int) = 2) by decide, show ¬ ((9 : Int) = 3 ∨ (9 : Int) = 4 ∨ (9 : Int) = 5) by decide, show ¬ ((9 : Int) = 7) by decide, show ¬ ((9 : Int) = 8) by decide, if_true, if_false, ha]
    have := h.turn (a := xa) (o := endB s.ps xa)
    simpa [locR, locN] using this
  · obtain ⟨i, rfl, hi⟩ := g1 (.inr rfl)
    refine ⟨⟨rfl, rfl, by simp [locN, toI], fun _ => by simp, fun j hj hne => by simp [locR], rfl, rfl, rfl⟩, ?_⟩
    simp only [show ¬ ((10 : Int) = 1) by decide, show ¬ ((10 : Int) = 2) by decide, show ¬ ((10 : Int) = 3 ∨ (10 : Int) = 4 ∨ (10 : Int) = 5) by decide, show ¬ ((10 : Int) = 7) by decide, show ¬ ((10 : Int) = 8) by decide, show ¬ ((10 : Int) = 9) by decide, if_true, if_false, ha, Int.toNat_natCast, h.r i hi]
    by_cases hz : s.r i = 0
    · have := h.turn (a := xb) (o := endB s.ps xb)
      simpa [locR, locN, hz] using this
    · have := h.turn (a := s.a + 1) (o := endB s.ps (s.a + 1))
      simpa [locR, locN, hz] using this

/-- A step that asks someone. -/
theorem ret_stp {s : CoS} {M : Ma} (h : Ag s M) (hg : GoodP s.ps) (he : endB s.ps s.a = false) (hl : isLoc s = false) : ∃ (e : Ev) (s' : CoS), Stp s s' e (atI s.ps s.a.toNat) ∧ Ag s' (M.step 0 false).2 ∧
    ∀ (p : Nat) (v : Value) (W : World), Kc W p v s → Calls Tryd.prog 24 #[.pointer (some ⟨p, 0, none⟩), .int .i64 (M.step 0 false).1.va, .int .i64 (M.step 0 false).1.cd] W fun en w' => en = .returned (.tuple #[.agg e.cells.toArray, .int .i64 0]) ∧ Kc w' p v s' ∧ W.grownBy w' (some p) := by
  obtain ⟨k, hk, hkl, h11⟩ := endB_no he
  have ek : s.a.toNat = k := by omega
  obtain ⟨x, hx, x1, x12, g1, g2, g3, g8, _, _, _⟩ := good_at hg hkl
  have hk2 : k < 1000 := by have := hg.1; omega
  have hx' : atI s.ps s.a.toNat = x := by rw [ek]; exact hx
  have hM : atI (M.se 0).ps (M.se 0).a.toNat = x := by rw [h.ps, h.a]; exact hx'
  unfold isLoc at hl
  rw [he, hx'] at hl
  rw [hx] at h11
  have ha := h.a
  rw [hx']
  obtain ⟨xo, xa, xb, xc⟩ := x
  unfold Ma.step
  dsimp only at *
  rw [hM]
  dsimp only
  rcases ask_op x1 x12 h11 (by simpa using hl) with rfl | rfl | rfl | rfl
  · obtain ⟨i, j, rfl, rfl, hi, hj⟩ := g3 (.inl rfl)
    rw [if_neg (show ¬ ((3 : Int) = 1) by decide), if_neg (show ¬ ((3 : Int) = 2) by decide), if_pos (show ((3 : Int) = 3 ∨ (3 : Int) = 4 ∨ (3 : Int) = 5) by decide), ha]
    unfold Ma.acc
    dsimp only
    by_cases hm : M.may (M.se 0).wo ((M.se 0).r (j : Int).toNat) = true
    · rw [if_pos hm]
      rw [if_pos (show ((3 : Int) = 3) by rfl)]
      dsimp only
      generalize M.m.wd ((M.se 0).r (j : Int).toNat).toNat = y
      refine ⟨⟨s.no, k, 3, s.wo, s.r j, y, 0⟩, { s with r := upd s.r i y, a := (k : Int) + 1, ov := endB s.ps ((k : Int) + 1) }, ⟨rfl, rfl, by simp [toI, hk], fun _ => rfl, fun n _ hne => by simp [wrI] at hne; simp [upd]; omega, by simp [hk], rfl, rfl⟩, ?_, fun p v W hK => ?_⟩
      · rw [hk]
        exact (h.reg i y).turn
      · exact kretire_ok3 p v s k i j xc y W hK he hk hk2 hx' hi hj
    · rw [if_neg hm]
      refine ⟨⟨s.no, k, 3, s.wo, s.r j, 0, 19⟩, { s with r := s.r, a := (k : Int) + 1, ov := endB s.ps ((k : Int) + 1) }, ⟨rfl, rfl, by simp [toI, hk], fun _ => rfl, fun _ _ _ => rfl, by simp [hk], rfl, rfl⟩, ?_, fun p v W hK => ?_⟩
      · rw [hk]
        exact h.turn
      · exact kretire_no3 p v s k i j xc 0 W hK he hk hk2 hx' hi hj
  · obtain ⟨i, j, rfl, rfl, hi, hj⟩ := g3 (.inr (.inl rfl))
    rw [if_neg (show ¬ ((4 : Int) = 1) by decide), if_neg (show ¬ ((4 : Int) = 2) by decide), if_pos (show ((4 : Int) = 3 ∨ (4 : Int) = 4 ∨ (4 : Int) = 5) by decide), ha]
    unfold Ma.acc
    dsimp only
    by_cases hm : M.may (M.se 0).wo ((M.se 0).r (j : Int).toNat) = true
    · rw [if_pos hm]
      rw [if_neg (show ¬ ((4 : Int) = 3) by decide), if_pos (show ((4 : Int) = 4) by rfl)]
      dsimp only
      generalize (M.se 0).r (i : Int).toNat = y
      refine ⟨⟨s.no, k, 4, s.wo, s.r j, s.r i, 0⟩, { s with r := s.r, a := (k : Int) + 1, ov := endB s.ps ((k : Int) + 1) }, ⟨rfl, rfl, by simp [toI, hk], fun _ => rfl, fun n _ _ => rfl, by simp [hk], rfl, rfl⟩, ?_, fun p v W hK => ?_⟩
      · rw [hk]
        exact (h.mem _).turn
      · exact kretire_ok4 p v s k i j xc y W hK he hk hk2 hx' hi hj
    · rw [if_neg hm]
      refine ⟨⟨s.no, k, 4, s.wo, s.r j, 0, 19⟩, { s with r := s.r, a := (k : Int) + 1, ov := endB s.ps ((k : Int) + 1) }, ⟨rfl, rfl, by simp [toI, hk], fun _ => rfl, fun _ _ _ => rfl, by simp [hk], rfl, rfl⟩, ?_, fun p v W hK => ?_⟩
      · rw [hk]
        exact h.turn
      · exact kretire_no4 p v s k i j xc 0 W hK he hk hk2 hx' hi hj
  · obtain ⟨i, j, rfl, rfl, hi, hj⟩ := g3 (.inr (.inr rfl))
    rw [if_neg (show ¬ ((5 : Int) = 1) by decide), if_neg (show ¬ ((5 : Int) = 2) by decide), if_pos (show ((5 : Int) = 3 ∨ (5 : Int) = 4 ∨ (5 : Int) = 5) by decide), ha]
    unfold Ma.acc
    dsimp only
    by_cases hm : M.may (M.se 0).wo ((M.se 0).r (j : Int).toNat) = true
    · rw [if_pos hm]
      rw [if_neg (show ¬ ((5 : Int) = 3) by decide), if_neg (show ¬ ((5 : Int) = 4) by decide)]
      dsimp only
      generalize M.m.wd ((M.se 0).r (j : Int).toNat).toNat = y
      refine ⟨⟨s.no, k, 5, s.wo, s.r j, y, 0⟩, { s with r := upd s.r i y, a := (k : Int) + 1, ov := endB s.ps ((k : Int) + 1) }, ⟨rfl, rfl, by simp [toI, hk], fun _ => rfl, fun n _ hne => by simp [wrI] at hne; simp [upd]; omega, by simp [hk], rfl, rfl⟩, ?_, fun p v W hK => ?_⟩
      · rw [hk]
        exact ((h.mem _).reg i y).turn
      · exact kretire_ok5 p v s k i j xc y W hK he hk hk2 hx' hi hj
    · rw [if_neg hm]
      refine ⟨⟨s.no, k, 5, s.wo, s.r j, 0, 19⟩, { s with r := s.r, a := (k : Int) + 1, ov := endB s.ps ((k : Int) + 1) }, ⟨rfl, rfl, by simp [toI, hk], fun _ => rfl, fun _ _ _ => rfl, by simp [hk], rfl, rfl⟩, ?_, fun p v W hK => ?_⟩
      · rw [hk]
        exact h.turn
      · exact kretire_no5 p v s k i j xc 0 W hK he hk hk2 hx' hi hj
  · obtain ⟨j, n, rfl, rfl, hj, hn, _⟩ := g8 rfl
    rw [if_neg (show ¬ ((8 : Int) = 1) by decide), if_neg (show ¬ ((8 : Int) = 2) by decide), if_neg (show ¬ ((8 : Int) = 3 ∨ (8 : Int) = 4 ∨ (8 : Int) = 5) by decide), if_neg (show ¬ ((8 : Int) = 7) by decide), if_pos (show ((8 : Int) = 8) by rfl), ha]
    have hc := (call_left M xa (M.se 0).wo ((M.se 0).r (j : Int).toNat) ((M.se 0).r (n : Int).toNat) false).2.2
    generalize M.call xa (M.se 0).wo ((M.se 0).r (j : Int).toNat) ((M.se 0).r (n : Int).toNat) false = cl at hc ⊢
    obtain ⟨z, N⟩ := cl
    dsimp only at hc ⊢
    generalize (M.se 0).r (n : Int).toNat = y
    refine ⟨⟨s.no, k, 8, s.wo, s.r j, s.r n, z⟩, { s with r := upd s.r j z, a := (k : Int) + 1, ov := endB s.ps ((k : Int) + 1) }, ⟨rfl, rfl, by simp [toI, hk], fun _ => rfl, fun q _ hne => by simp [wrI] at hne; simp [upd]; omega, by simp [hk], rfl, rfl⟩, ?_, fun p v W hK => ?_⟩
    · rw [hk]
      exact ((h.same hc).reg j z).turn
    · exact kretire_call p v s k xa y z j n W hK he hk hk2 hx' hj hn

end Go.Proofs.YtkobeajbiendlaaDoor
