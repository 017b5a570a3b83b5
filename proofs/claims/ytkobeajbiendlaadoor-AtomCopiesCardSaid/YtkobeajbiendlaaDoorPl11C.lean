/- What this text holds: plain laws of two machines that agree on what a world may have: each step of that world's cores tells the same, and what others do is seen where it lets them go apart. No condition. -/
import Derived.Test.YtkobeajbiendlaaDoorPl11B
namespace Go.Proofs.YtkobeajbiendlaaDoor
open Go.RowKit

theorem n_cc {x m : Mm} (h : x.c = m.c) : x.n = m.n := by unfold Mm.n; rw [h]
/-- Two cores are the same. -/
def SeEq (s t : Se) : Prop := (∀ j, j < 4 → s.r j = t.r j) ∧ s.a = t.a ∧ s.wo = t.wo ∧ s.ov = t.ov
/-- Two machines agree on owners, on a world's words and on its cores. -/
structure Agr (M N : Ma) (k : Int) : Prop where
  ow : ∀ g, g < M.ng → M.ow g = N.ow g
  wd : ∀ x, x < 2 * M.m.n → mayT k (M.ow (x / 4)) = true → M.m.wd x = N.m.wd x
  se : ∀ i, i < M.nc → ((M.se i).wo = k ∨ (N.se i).wo = k) → SeEq (M.se i) (N.se i)
/-- Two machines are as great, with the same programs. -/
structure Twn (M N : Ma) : Prop where
  c : N.m.c = M.m.c
  ps : ∀ i, i < M.nc → (N.se i).ps = (M.se i).ps
theorem Twn.nc {M N : Ma} (h : Twn M N) : N.nc = M.nc := by unfold Ma.nc; rw [h.c]
theorem Twn.ng {M N : Ma} (h : Twn M N) : N.ng = M.ng := by unfold Ma.ng; rw [h.c]
theorem Twn.n {M N : Ma} (h : Twn M N) : N.m.n = M.m.n := n_cc h.c
/-- May what a core did be seen by a world? -/
def seenB (M : Ma) (e : Ev) (k : Int) : Bool := decide (e.cd = 0) && (((e.op == 8) || (e.op == 7)) || (((e.op == 4) || (e.op == 5)) && (decide (0 ≤ e.wd) && (decide ((M.ownA (e.wd / 4)).2 = 0) && mayT k (M.ownA (e.wd / 4)).1))))
theorem lk_step (M : Ma) (i : Nat) (b : Bool) : Lk M (M.step i b).2 i := by
  obtain ⟨X, a, e, h⟩ := step_turn M i b
  rw [e]
  exact h.trans (Lk.turn _ _ _)
theorem Lk.nc {M X : Ma} {i : Nat} (h : Lk M X i) : X.nc = M.nc := by unfold Ma.nc; rw [h.c]
theorem Lk.ng {M X : Ma} {i : Nat} (h : Lk M X i) : X.ng = M.ng := by unfold Ma.ng; rw [h.c]
theorem Lk.n {M X : Ma} {i : Nat} (h : Lk M X i) : X.m.n = M.m.n := n_cc h.c
theorem Agr.of {M N M' N' : Ma} {k : Int} {i : Nat} (hA : Agr M N k) (l1 : Lk M M' i) (l2 : Lk N N' i) (hs : ((M'.se i).wo = k ∨ (N'.se i).wo = k) → SeEq (M'.se i) (N'.se i)) (how : ∀ g, g < M.ng → M'.ow g = N'.ow g)
    (hwd : ∀ x, x < 2 * M.m.n → mayT k (M'.ow (x / 4)) = true → M'.m.wd x = N'.m.wd x) : Agr M' N' k := by
  refine ⟨fun g hg => how g (by rwa [l1.ng] at hg), fun x hx => hwd x (by rwa [l1.n] at hx), fun j hj h => ?_⟩
  rw [l1.nc] at hj
  by_cases hji : j = i
  · subst hji
    exact hs h
  · rw [l1.se j hji, l2.se j hji] at h ⊢
    exact hA.se j hj h
theorem Twn.of {M N M' N' : Ma} {i : Nat} (h : Twn M N) (l1 : Lk M M' i) (l2 : Lk N N' i) : Twn M' N' := by
  refine ⟨by rw [l2.c, l1.c, h.c], fun j hj => ?_⟩
  rw [l1.nc] at hj
  by_cases hji : j = i
  · subst hji
    rw [l1.ps, l2.ps]
    exact h.ps j hj
  · rw [l1.se j hji, l2.se j hji]
    exact h.ps j hj
theorem se_turn (X : Ma) (i : Nat) (a : Int) : (X.turn i a).se i = ⟨(X.se i).r, a, (X.se i).wo, endB (X.se i).ps a, (X.se i).ps⟩ := by
  show updN X.se i _ i = _
  exact updN_same _ _ _
theorem se_reg (X : Ma) (i k : Nat) (v : Int) : (X.setReg i k v).se i = ⟨updN (X.se i).r k v, (X.se i).a, (X.se i).wo, (X.se i).ov, (X.se i).ps⟩ := by
  show updN X.se i _ i = _
  exact updN_same _ _ _
theorem se_wo (X : Ma) (i : Nat) (v : Int) : (X.setWo i v).se i = ⟨(X.se i).r, (X.se i).a, v, (X.se i).ov, (X.se i).ps⟩ := by
  show updN X.se i _ i = _
  exact updN_same _ _ _
theorem step_wo (M : Ma) (i : Nat) (b : Bool) : ((M.step i b).2.se i).wo = (M.se i).wo ∨ ((M.step i b).1.op = 7 ∧ (M.step i b).1.cd = 0) := by
  unfold Ma.step
  dsimp only
  split
  · exact .inl (by rw [se_turn, se_reg])
  split
  · exact .inl (by rw [se_turn, se_reg])
  split
  · rename_i h345
    rcases acc_left M i (atI (M.se i).ps (M.se i).a.toNat) h345 with ⟨_, e2⟩ | ⟨_, _, _, e4, _⟩
    · exact .inl (by rw [se_turn, e2])
    · exact .inl (by rw [se_turn]; exact e4 i)
  split
  · rename_i h7
    split
    · exact .inr ⟨h7, rfl⟩
    · exact .inl (by rw [se_turn])
  split
  · have h := (call_left M (atI (M.se i).ps (M.se i).a.toNat).a (M.se i).wo ((M.se i).r (atI (M.se i).ps (M.se i).a.toNat).b.toNat) ((M.se i).r (atI (M.se i).ps (M.se i).a.toNat).c.toNat) b).2.2
    exact .inl (by rw [se_turn, se_reg]; rw [h])
  split
  · exact .inl (by rw [se_turn])
  split
  · exact .inl (by rw [se_turn])
  · exact .inl (by rw [se_turn])
theorem stepA_wo (M : Ma) (x : Int) (b : Bool) : (∀ i, ((M.stepA x b).2.2.se i).wo = (M.se i).wo) ∨ ((M.stepA x b).1.op = 7 ∧ (M.stepA x b).1.cd = 0) := by
  unfold Ma.stepA
  split
  · exact .inl fun _ => rfl
  split
  · exact .inl fun _ => rfl
  rcases step_wo M x.toNat b with h | h
  · refine .inl fun j => ?_
    by_cases hj : j = x.toNat
    · rw [hj]; exact h
    · exact congrArg Se.wo ((lk_step M x.toNat b).se j hj)
  · exact .inr h
/-- A step that is not seen turns nothing that the world may have. -/
theorem quiet_step (M : Ma) (hg : M.Good) (k : Int) (x : Int) (b : Bool) (h : seenB (M.stepA x b).2.2 (M.stepA x b).1 k = false) :
    (∀ g, (M.stepA x b).2.2.ow g = M.ow g) ∧ (∀ y, y < 2 * M.m.n → mayT k (M.ow (y / 4)) = true → (M.stepA x b).2.2.m.wd y = M.m.wd y) ∧ ∀ i, ((M.stepA x b).2.2.se i).wo = (M.se i).wo := by
  have hwo := stepA_wo M x b
  have hc := stepA_c M x b
  obtain ⟨co, a, op, wo, wd, va, cd, f, M1, q, h1, h2, h3⟩ := keeps_ev M hg x b
  rw [q] at h hwo hc ⊢
  dsimp only at h hwo hc ⊢
  have how : ∀ g, M1.ow g = M.ow g := fun g => by
    by_cases hn : M1.ow g = M.ow g
    · exact hn
    · obtain ⟨_, h8, h0, _⟩ := h2 g hn
      simp [seenB, h8, h0] at h
  refine ⟨how, fun y hy hm => ?_, ?_⟩
  · by_cases hn : M1.m.wd y = M.m.wd y
    · exact hn
    · rcases h1 y hn with ⟨_, h0, h45, hw, _⟩ | ⟨_, h8, h0, _⟩
      · exfalso
        have hg4 : y / 4 < M1.ng := by
          have e1 : M1.ng = M.ng := by unfold Ma.ng; rw [hc]
          have := (Ma.n_of hg.1).2.2.2.2.2.2
          omega
        have e4 : wd / 4 = ((y / 4 : Nat) : Int) := by omega
        have hb : ((op == 4) || (op == 5)) = true := by rcases h45 with h | h <;> simp [h]
        have hp : decide (0 ≤ wd) = true := by simp; omega
        simp only [seenB, h0, hb, hp, e4, ownA_in hg4, how, hm] at h
        simp at h
      · simp [seenB, h8, h0] at h
  · rcases hwo with h4 | ⟨h7, h0⟩
    · exact h4
    · simp [seenB, h7, h0] at h
/-- What others do is seen, where it lets two machines go apart. -/
theorem apart_out {M N : Ma} {k : Int} (hT : Twn M N) (hA : Agr M N k) (hM : M.Good) (hN : N.Good) (x : Int) (b : Bool) (hw : ∀ i, i < M.nc → x = (i : Int) → (M.se i).wo ≠ k) :
    Agr (M.stepA x b).2.2 (N.stepA x b).2.2 k ∨ seenB (M.stepA x b).2.2 (M.stepA x b).1 k = true ∨ seenB (N.stepA x b).2.2 (N.stepA x b).1 k = true := by
  cases h1 : seenB (M.stepA x b).2.2 (M.stepA x b).1 k
  case true => exact .inr (.inl rfl)
  cases h2 : seenB (N.stepA x b).2.2 (N.stepA x b).1 k
  case true => exact .inr (.inr rfl)
  obtain ⟨a1, a2, a3⟩ := quiet_step M hM k x b h1
  obtain ⟨b1, b2, b3⟩ := quiet_step N hN k x b h2
  have c1 := stepA_c M x b
  refine .inl ⟨fun g hg => ?_, fun y hy hm => ?_, fun i hi h => ?_⟩
  · rw [a1, b1]
    exact hA.ow g (by unfold Ma.ng at hg ⊢; rwa [c1] at hg)
  · have hy' : y < 2 * M.m.n := by rwa [n_cc c1] at hy
    rw [a1] at hm
    have hy4 : y / 4 < M.ng := by have := (Ma.n_of hM.1).2.2.2.2.2.2; omega
    rw [a2 y hy' hm, b2 y (by rw [hT.n]; exact hy') (by rw [← hA.ow _ hy4]; exact hm)]
    exact hA.wd y hy' hm
  · rw [a3, b3] at h
    have hi' : i < M.nc := by unfold Ma.nc at hi ⊢; rwa [c1] at hi
    have hse := hA.se i hi' h
    have hne : x ≠ (i : Int) := fun e => by
      rcases h with h | h
      · exact hw i hi' e h
      · exact hw i hi' e (hse.2.2.1.trans h)
    have keep : ∀ (X : Ma), (X.stepA x b).2.2.se i = X.se i := fun X => by
      unfold Ma.stepA
      split
      · rfl
      split
      · rfl
      · exact (lk_step X x.toNat b).se i (by omega)
    rw [keep M, keep N]
    exact hse
def Ma.ins (M : Ma) (i : Nat) : Ins := atI (M.se i).ps (M.se i).a.toNat
theorem st1 (M : Ma) (i : Nat) (b : Bool) (h : (M.ins i).op = 1) : M.step i b = (⟨i, (M.se i).a, (M.ins i).op, (M.se i).wo, 0, (M.ins i).b, 0⟩, (M.setReg i (M.ins i).a.toNat (M.ins i).b).turn i ((M.se i).a + 1)) := by
  unfold Ma.ins at h ⊢
  unfold Ma.step
  dsimp only
  rw [if_pos h]
theorem st2 (M : Ma) (i : Nat) (b : Bool) (h : (M.ins i).op = 2) : M.step i b = (⟨i, (M.se i).a, (M.ins i).op, (M.se i).wo, 0, wrap64 ((M.se i).r (M.ins i).b.toNat + (M.se i).r (M.ins i).c.toNat), 0⟩, (M.setReg i (M.ins i).a.toNat (wrap64 ((M.se i).r (M.ins i).b.toNat + (M.se i).r (M.ins i).c.toNat))).turn i ((M.se i).a + 1)) := by
  unfold Ma.ins at h ⊢
  unfold Ma.step
  dsimp only
  rw [if_neg (by omega), if_pos h]
theorem st3 (M : Ma) (i : Nat) (b : Bool) (h : (M.ins i).op = 3 ∨ (M.ins i).op = 4 ∨ (M.ins i).op = 5) : M.step i b = (⟨i, (M.se i).a, (M.ins i).op, (M.se i).wo, (M.se i).r (M.ins i).b.toNat, (M.acc i (M.ins i)).1, (M.acc i (M.ins i)).2.1⟩, (M.acc i (M.ins i)).2.2.turn i ((M.se i).a + 1)) := by
  unfold Ma.ins at h ⊢
  unfold Ma.step
  dsimp only
  rw [if_neg (by omega), if_neg (by omega), if_pos h]
theorem st7 (M : Ma) (i : Nat) (b : Bool) (h : (M.ins i).op = 7) (hw : (M.se i).wo ≠ 0) : M.step i b = (⟨i, (M.se i).a, (M.ins i).op, (M.se i).wo, 0, (M.ins i).a, 18⟩, M.turn i ((M.se i).a + 1)) := by
  unfold Ma.ins at h ⊢
  unfold Ma.step
  dsimp only
  rw [if_neg (by omega), if_neg (by omega), if_neg (by omega), if_pos h, if_neg hw]
theorem st8 (M : Ma) (i : Nat) (b : Bool) (h : (M.ins i).op = 8) : M.step i b = (⟨i, (M.se i).a, (M.ins i).op, (M.se i).wo, (M.se i).r (M.ins i).b.toNat, (M.se i).r (M.ins i).c.toNat, (M.call (M.ins i).a (M.se i).wo ((M.se i).r (M.ins i).b.toNat) ((M.se i).r (M.ins i).c.toNat) b).1⟩,
      ((M.call (M.ins i).a (M.se i).wo ((M.se i).r (M.ins i).b.toNat) ((M.se i).r (M.ins i).c.toNat) b).2.setReg i (M.ins i).b.toNat (M.call (M.ins i).a (M.se i).wo ((M.se i).r (M.ins i).b.toNat) ((M.se i).r (M.ins i).c.toNat) b).1).turn i ((M.se i).a + 1)) := by
  unfold Ma.ins at h ⊢
  unfold Ma.step
  dsimp only
  rw [if_neg (by omega), if_neg (by omega), if_neg (by omega), if_neg (by omega), if_pos h]
theorem st9 (M : Ma) (i : Nat) (b : Bool) (h : (M.ins i).op = 9) : M.step i b = (⟨i, (M.se i).a, (M.ins i).op, (M.se i).wo, 0, (M.ins i).a, 0⟩, M.turn i (M.ins i).a) := by
  unfold Ma.ins at h ⊢
  unfold Ma.step
  dsimp only
  rw [if_neg (by omega), if_neg (by omega), if_neg (by omega), if_neg (by omega), if_neg (by omega), if_pos h]
theorem st10 (M : Ma) (i : Nat) (b : Bool) (h : (M.ins i).op = 10) : M.step i b = (⟨i, (M.se i).a, (M.ins i).op, (M.se i).wo, 0, (M.se i).r (M.ins i).a.toNat, 0⟩, M.turn i (if (M.se i).r (M.ins i).a.toNat = 0 then (M.ins i).b else (M.se i).a + 1)) := by
  unfold Ma.ins at h ⊢
  unfold Ma.step
  dsimp only
  rw [if_neg (by omega), if_neg (by omega), if_neg (by omega), if_neg (by omega), if_neg (by omega), if_neg (by omega), if_pos h]
theorem st6 (M : Ma) (i : Nat) (b : Bool) (h : (M.ins i).op = 6 ∨ (M.ins i).op = 11) : M.step i b = (⟨i, (M.se i).a, (M.ins i).op, (M.se i).wo, 0, 0, 0⟩, M.turn i ((M.se i).a + 1)) := by
  unfold Ma.ins at h ⊢
  unfold Ma.step
  dsimp only
  rw [if_neg (by omega), if_neg (by omega), if_neg (by omega), if_neg (by omega), if_neg (by omega), if_neg (by omega), if_neg (by omega)]
theorem mayT_self {k : Int} (h : 1 ≤ k ∧ k ≤ 3) : mayT k k = true := by simp [mayT]; omega
theorem updN_eq {f g : Nat → Int} (h : ∀ j, j < 4 → f j = g j) (k : Nat) (v : Int) : ∀ j, j < 4 → updN f k v j = updN g k v j := fun j hj => by
  by_cases hk : j = k
  · rw [hk, updN_same, updN_same]
  · rw [updN_ne _ _ hk, updN_ne _ _ hk, h j hj]
theorem SeEq.turn {s t : Se} (h : SeEq s t) (hp : t.ps = s.ps) (a : Int) : SeEq ⟨s.r, a, s.wo, endB s.ps a, s.ps⟩ ⟨t.r, a, t.wo, endB t.ps a, t.ps⟩ := ⟨h.1, rfl, h.2.2.1, by show endB s.ps a = endB t.ps a; rw [hp]⟩
theorem SeEq.regturn {s t : Se} (h : SeEq s t) (hp : t.ps = s.ps) (k : Nat) (v a : Int) : SeEq ⟨updN s.r k v, a, s.wo, endB s.ps a, s.ps⟩ ⟨updN t.r k v, a, t.wo, endB t.ps a, t.ps⟩ := ⟨updN_eq h.1 k v, rfl, h.2.2.1, by show endB s.ps a = endB t.ps a; rw [hp]⟩

theorem judge_share {ca wo o tw : Int} (h0 : (judge ca wo o tw).2.2 = 0) (hs : (judge ca wo o tw).2.1 = false) : wo = o := by
  unfold judge at h0 hs
  (repeat' split at h0) <;> simp_all
/-- A step of that world's own core. -/
theorem apart_in {M N : Ma} {k : Int} (hT : Twn M N) (hA : Agr M N k) (hM : M.Good) (hk : 1 ≤ k ∧ k ≤ 3) (i : Nat) (hi : i < M.nc) (b : Bool) (hw : (M.se i).wo = k) (hov : (M.se i).ov = false) :
    (M.step i b).1 = (N.step i b).1 ∧ Agr (M.step i b).2 (N.step i b).2 k := by
  have hse := hA.se i hi (.inl hw)
  obtain ⟨hr, ha, hwo, ho⟩ := hse
  have hp := hT.ps i hi
  have hx : N.ins i = M.ins i := by unfold Ma.ins; rw [hp, ha]
  have he : endB (M.se i).ps (M.se i).a = false := by rw [← (hM.2 i hi).2]; exact hov
  obtain ⟨q, hq, hql, h11⟩ := endB_no he
  obtain ⟨x, hxx, x1, x12, g1, g2, g3, g8, _, _, _⟩ := good_at (hM.2 i hi).1 hql
  have hxM : M.ins i = x := by unfold Ma.ins; rw [hq, Int.toNat_natCast]; exact hxx
  have l1 := lk_step M i b
  have l2 := lk_step N i b
  have plain : ∀ {M' N' : Ma}, M'.ow = M.ow → N'.ow = N.ow → M'.m = M.m → N'.m = N.m → (∀ g, g < M.ng → M'.ow g = N'.ow g) ∧ (∀ y, y < 2 * M.m.n → mayT k (M'.ow (y / 4)) = true → M'.m.wd y = N'.m.wd y) := fun e1 e2 e3 e4 => by
    rw [e1, e2, e3, e4]
    exact ⟨hA.ow, hA.wd⟩
  have h15 : x.op = 1 ∨ x.op = 2 ∨ (x.op = 3 ∨ x.op = 4 ∨ x.op = 5) ∨ (x.op = 6 ∨ x.op = 11) ∨ x.op = 7 ∨ x.op = 8 ∨ x.op = 9 ∨ x.op = 10 := by omega
  rcases h15 with h | h | h | h | h | h | h | h
  · rw [st1 M i b (by rw [hxM]; exact h), st1 N i b (by rw [hx, hxM]; exact h)] at *
    rw [hx, ← ha, ← hwo]
    obtain ⟨p1, p2⟩ := plain (M' := (M.setReg i (M.ins i).a.toNat (M.ins i).b).turn i ((M.se i).a + 1)) (N' := (N.setReg i (M.ins i).a.toNat (M.ins i).b).turn i ((M.se i).a + 1)) rfl rfl rfl rfl
    rw [hx, ← ha] at l2
    refine ⟨rfl, Agr.of hA l1 l2 (fun _ => ?_) p1 p2⟩
    rw [se_turn, se_turn, se_reg, se_reg]
    exact SeEq.regturn ⟨hr, ha, hwo, ho⟩ hp _ _ _
  · obtain ⟨ri, rj, rn, ea, eb, ec, hi4, hj4, hn4⟩ := g2 h
    have hb4 : (M.ins i).b.toNat < 4 := by rw [hxM, eb, Int.toNat_natCast]; exact hj4
    have hc4 : (M.ins i).c.toNat < 4 := by rw [hxM, ec, Int.toNat_natCast]; exact hn4
    rw [st2 M i b (by rw [hxM]; exact h), st2 N i b (by rw [hx, hxM]; exact h)] at *
    rw [hx, ← ha, ← hr _ hb4, ← hr _ hc4] at l2 ⊢
    rw [← hwo]
    generalize wrap64 ((M.se i).r (M.ins i).b.toNat + (M.se i).r (M.ins i).c.toNat) = vv at *
    obtain ⟨p1, p2⟩ := plain (M' := (M.setReg i (M.ins i).a.toNat vv).turn i ((M.se i).a + 1)) (N' := (N.setReg i (M.ins i).a.toNat vv).turn i ((M.se i).a + 1)) rfl rfl rfl rfl
    refine ⟨rfl, Agr.of hA l1 l2 (fun _ => ?_) p1 p2⟩
    rw [se_turn, se_turn, se_reg, se_reg]
    exact SeEq.regturn ⟨hr, ha, hwo, ho⟩ hp _ _ _
  · obtain ⟨ri, rj, ea, eb, hi4, hj4⟩ := g3 h
    have ha4 : (M.ins i).a.toNat < 4 := by rw [hxM, ea, Int.toNat_natCast]; exact hi4
    have hb4 : (M.ins i).b.toNat < 4 := by rw [hxM, eb, Int.toNat_natCast]; exact hj4
    rw [st3 M i b (by rw [hxM]; exact h), st3 N i b (by rw [hx, hxM]; exact h)] at *
    rw [hx, ← ha, ← hr _ hb4] at l2 ⊢
    rw [← hwo]
    have hacc : (N.acc i (M.ins i)).1 = (M.acc i (M.ins i)).1 ∧ (N.acc i (M.ins i)).2.1 = (M.acc i (M.ins i)).2.1 ∧ SeEq ((M.acc i (M.ins i)).2.2.se i) ((N.acc i (M.ins i)).2.2.se i) ∧ (N.acc i (M.ins i)).2.2.ow = N.ow ∧ (M.acc i (M.ins i)).2.2.ow = M.ow ∧
        (∀ y, y < 2 * M.m.n → mayT k (M.ow (y / 4)) = true → (M.acc i (M.ins i)).2.2.m.wd y = (N.acc i (M.ins i)).2.2.m.wd y) ∧ ((N.acc i (M.ins i)).2.2.se i).ps = ((M.acc i (M.ins i)).2.2.se i).ps := by
      have hmay : N.may (N.se i).wo ((N.se i).r (M.ins i).b.toNat) = M.may (M.se i).wo ((M.se i).r (M.ins i).b.toNat) := by
        rw [← hwo, ← hr _ hb4]
        unfold Ma.may
        rw [hT.n]
        by_cases hin : 0 ≤ (M.se i).r (M.ins i).b.toNat ∧ (M.se i).r (M.ins i).b.toNat < 2 * M.m.n
        · have hgr : ((M.se i).r (M.ins i).b.toNat).toNat / 4 < M.ng := by have := (Ma.n_of hM.1).2.2.2.2.2.2; omega
          rw [hA.ow _ hgr]
        · have : (decide (0 ≤ (M.se i).r (M.ins i).b.toNat) && decide ((M.se i).r (M.ins i).b.toNat < 2 * (M.m.n : Int))) = false := by simp; omega
          rw [this]
          rfl
      unfold Ma.acc
      dsimp only
      rw [hmay, ← hr _ hb4, ← hr _ ha4]
      by_cases hm : M.may (M.se i).wo ((M.se i).r (M.ins i).b.toNat) = true
      · rw [if_pos hm, if_pos hm]
        obtain ⟨kw, hkw, hkl, hmt⟩ := may_true hm
        have hwe : M.m.wd ((M.se i).r (M.ins i).b.toNat).toNat = N.m.wd ((M.se i).r (M.ins i).b.toNat).toNat := by
          rw [hkw, Int.toNat_natCast]
          exact hA.wd kw (by omega) (by rw [← hw]; exact hmt)
        have hput : ∀ (v : Int) y, y < 2 * M.m.n → mayT k (M.ow (y / 4)) = true → (M.m.setWd ((M.se i).r (M.ins i).b.toNat).toNat v).wd y = (N.m.setWd ((M.se i).r (M.ins i).b.toNat).toNat v).wd y := fun v y hy hmy => by
          show updN M.m.wd _ v y = updN N.m.wd _ v y
          by_cases hyk : y = ((M.se i).r (M.ins i).b.toNat).toNat
          · rw [← hyk, updN_same, updN_same]
          · rw [updN_ne _ _ hyk, updN_ne _ _ hyk]
            exact hA.wd y hy hmy
        split
        · refine ⟨hwe.symm, rfl, ?_, rfl, rfl, fun y hy hmy => hA.wd y hy hmy, ?_⟩
          · rw [se_reg, se_reg, hwe]
            exact ⟨updN_eq hr _ _, ha, hwo, ho⟩
          · rw [se_reg, se_reg]
            exact hp
        split
        · exact ⟨rfl, rfl, ⟨hr, ha, hwo, ho⟩, rfl, rfl, hput _, hp⟩
        · refine ⟨hwe.symm, rfl, ?_, rfl, rfl, hput _, ?_⟩
          · rw [se_reg, se_reg, hwe]
            exact ⟨updN_eq hr _ _, ha, hwo, ho⟩
          · rw [se_reg, se_reg]
            exact hp
      · rw [if_neg hm, if_neg hm]
        exact ⟨rfl, rfl, ⟨hr, ha, hwo, ho⟩, rfl, rfl, fun y hy hmy => hA.wd y hy hmy, hp⟩
    obtain ⟨q1, q2, q3, q4, q5, q6, q7⟩ := hacc
    refine ⟨by rw [q1, q2], Agr.of hA l1 l2 (fun _ => ?_) (fun g hg => ?_) (fun y hy hmy => ?_)⟩
    · rw [se_turn, se_turn]
      exact q3.turn q7 _
    · show (M.acc i (M.ins i)).2.2.ow g = (N.acc i (M.ins i)).2.2.ow g
      rw [q4, q5]
      exact hA.ow g hg
    · have hmy : mayT k ((M.acc i (M.ins i)).2.2.ow (y / 4)) = true := hmy
      rw [q5] at hmy
      exact q6 y hy hmy
  · rw [st6 M i b (by rw [hxM]; exact h), st6 N i b (by rw [hx, hxM]; exact h)] at *
    rw [hx, ← ha, ← hwo]
    rw [← ha] at l2
    obtain ⟨p1, p2⟩ := plain (M' := M.turn i ((M.se i).a + 1)) (N' := N.turn i ((M.se i).a + 1)) rfl rfl rfl rfl
    refine ⟨rfl, Agr.of hA l1 l2 (fun _ => ?_) p1 p2⟩
    rw [se_turn, se_turn]
    exact SeEq.turn ⟨hr, ha, hwo, ho⟩ hp _
  · rw [st7 M i b (by rw [hxM]; exact h) (by omega), st7 N i b (by rw [hx, hxM]; exact h) (by omega)] at *
    rw [hx, ← ha, ← hwo]
    rw [← ha] at l2
    obtain ⟨p1, p2⟩ := plain (M' := M.turn i ((M.se i).a + 1)) (N' := N.turn i ((M.se i).a + 1)) rfl rfl rfl rfl
    refine ⟨rfl, Agr.of hA l1 l2 (fun _ => ?_) p1 p2⟩
    rw [se_turn, se_turn]
    exact SeEq.turn ⟨hr, ha, hwo, ho⟩ hp _
  · obtain ⟨rj, rn, eb, ec, hj4, hn4, _⟩ := g8 h
    have hb4 : (M.ins i).b.toNat < 4 := by rw [hxM, eb, Int.toNat_natCast]; exact hj4
    have hc4 : (M.ins i).c.toNat < 4 := by rw [hxM, ec, Int.toNat_natCast]; exact hn4
    rw [st8 M i b (by rw [hxM]; exact h), st8 N i b (by rw [hx, hxM]; exact h)] at *
    rw [hx, ← ha, ← hwo, ← hr _ hb4, ← hr _ hc4] at l2 ⊢
    generalize (M.se i).r (M.ins i).b.toNat = gr at *
    generalize (M.se i).r (M.ins i).c.toNat = tw at *
    have hcall : (N.call (M.ins i).a (M.se i).wo gr tw b).1 = (M.call (M.ins i).a (M.se i).wo gr tw b).1 ∧ (N.call (M.ins i).a (M.se i).wo gr tw b).2.se = N.se ∧ (M.call (M.ins i).a (M.se i).wo gr tw b).2.se = M.se ∧
        (∀ g, g < M.ng → (M.call (M.ins i).a (M.se i).wo gr tw b).2.ow g = (N.call (M.ins i).a (M.se i).wo gr tw b).2.ow g) ∧
        (∀ y, y < 2 * M.m.n → mayT k ((M.call (M.ins i).a (M.se i).wo gr tw b).2.ow (y / 4)) = true → (M.call (M.ins i).a (M.se i).wo gr tw b).2.m.wd y = (N.call (M.ins i).a (M.se i).wo gr tw b).2.m.wd y) := by
      unfold Ma.call
      rw [hT.ng]
      by_cases hin : gr < 0 ∨ (M.ng : Int) ≤ gr
      · rw [if_pos hin, if_pos hin]
        exact ⟨rfl, rfl, rfl, hA.ow, hA.wd⟩
      rw [if_neg hin, if_neg hin]
      cases b
      case true => exact ⟨rfl, rfl, rfl, hA.ow, hA.wd⟩
      rw [if_neg (show ¬ (false = true) by simp), if_neg (show ¬ (false = true) by simp)]
      dsimp only
      have hgl : gr.toNat < M.ng := by omega
      rw [← hA.ow _ hgl]
      by_cases hj : (judge (M.ins i).a (M.se i).wo (M.ow gr.toNat) tw).2.2 ≠ 0
      · rw [if_pos hj, if_pos hj]
        exact ⟨rfl, rfl, rfl, hA.ow, hA.wd⟩
      rw [if_neg hj, if_neg hj]
      have hj0 : (judge (M.ins i).a (M.se i).wo (M.ow gr.toNat) tw).2.2 = 0 := by simpa using hj
      have hshare : (judge (M.ins i).a (M.se i).wo (M.ow gr.toNat) tw).2.1 = false → (M.se i).wo = M.ow gr.toNat := judge_share hj0
      have how : ∀ v g, g < M.ng → updN M.ow gr.toNat v g = updN N.ow gr.toNat v g := fun v g hg => by
        by_cases hgg : g = gr.toNat
        · rw [hgg, updN_same, updN_same]
        · rw [updN_ne _ _ hgg, updN_ne _ _ hgg]
          exact hA.ow g hg
      generalize (judge (M.ins i).a (M.se i).wo (M.ow gr.toNat) tw) = jj at hshare ⊢
      obtain ⟨jt, js, jc⟩ := jj
      dsimp only at hshare ⊢
      cases js
      · refine ⟨rfl, rfl, rfl, how jt, fun y hy hmy => ?_⟩
        have hmy : mayT k (updN M.ow gr.toNat jt (y / 4)) = true := hmy
        show M.m.wd y = N.m.wd y
        refine hA.wd y hy ?_
        by_cases hgg : y / 4 = gr.toNat
        · rw [hgg, ← hshare rfl, hw]
          exact mayT_self hk
        · rwa [updN_ne _ _ hgg] at hmy
      · refine ⟨rfl, rfl, rfl, how jt, fun y hy hmy => ?_⟩
        have hmy : mayT k (updN M.ow gr.toNat jt (y / 4)) = true := hmy
        show (M.m.scrub gr.toNat).wd y = (N.m.scrub gr.toNat).wd y
        rw [scrub_wd, scrub_wd]
        by_cases hgg : y / 4 = gr.toNat
        · rw [if_pos hgg, if_pos hgg]
        · rw [if_neg hgg, if_neg hgg]
          rw [updN_ne _ _ hgg] at hmy
          exact hA.wd y hy hmy
    obtain ⟨q1, q2, q3, q4, q5⟩ := hcall
    refine ⟨by rw [q1], Agr.of hA l1 l2 (fun _ => ?_) (fun g hg => q4 g hg) (fun y hy hmy => q5 y hy hmy)⟩
    rw [se_turn, se_turn, se_reg, se_reg, q1, q2, q3]
    exact SeEq.regturn ⟨hr, ha, hwo, ho⟩ hp _ _ _
  · rw [st9 M i b (by rw [hxM]; exact h), st9 N i b (by rw [hx, hxM]; exact h)] at *
    rw [hx, ← ha, ← hwo]
    rw [hx] at l2
    obtain ⟨p1, p2⟩ := plain (M' := M.turn i (M.ins i).a) (N' := N.turn i (M.ins i).a) rfl rfl rfl rfl
    refine ⟨rfl, Agr.of hA l1 l2 (fun _ => ?_) p1 p2⟩
    rw [se_turn, se_turn]
    exact SeEq.turn ⟨hr, ha, hwo, ho⟩ hp _
  · obtain ⟨ri, ea, hi4⟩ := g1 (.inr h)
    have ha4 : (M.ins i).a.toNat < 4 := by rw [hxM, ea, Int.toNat_natCast]; exact hi4
    rw [st10 M i b (by rw [hxM]; exact h), st10 N i b (by rw [hx, hxM]; exact h)] at *
    rw [hx, ← ha, ← hr _ ha4] at l2 ⊢
    rw [← hwo]
    generalize (if (M.se i).r (M.ins i).a.toNat = 0 then (M.ins i).b else (M.se i).a + 1) = na at *
    obtain ⟨p1, p2⟩ := plain (M' := M.turn i na) (N' := N.turn i na) rfl rfl rfl rfl
    refine ⟨rfl, Agr.of hA l1 l2 (fun _ => ?_) p1 p2⟩
    rw [se_turn, se_turn]
    exact SeEq.turn ⟨hr, ha, hwo, ho⟩ hp _

theorem stepA_ps (M : Ma) (x : Int) (b : Bool) (i : Nat) : ((M.stepA x b).2.2.se i).ps = (M.se i).ps := by
  unfold Ma.stepA
  split
  · rfl
  split
  · rfl
  by_cases hi : i = x.toNat
  · rw [hi]; exact (lk_step M x.toNat b).ps
  · exact congrArg Se.ps ((lk_step M x.toNat b).se i hi)
/-- All that AtomApart wants of a step of both. -/
theorem apart_step {M N : Ma} {k : Int} (hT : Twn M N) (hA : Agr M N k) (hM : M.Good) (hN : N.Good) (hk : 1 ≤ k ∧ k ≤ 3) (x : Int) (b : Bool) :
    ((M.coreA x).1.wo = k → (M.stepA x b).1 = (N.stepA x b).1 ∧ (M.stepA x b).2.1 = (N.stepA x b).2.1 ∧ Agr (M.stepA x b).2.2 (N.stepA x b).2.2 k) ∧
    ((M.coreA x).1.wo ≠ k → Agr (M.stepA x b).2.2 (N.stepA x b).2.2 k ∨ seenB (M.stepA x b).2.2 (M.stepA x b).1 k = true ∨ seenB (N.stepA x b).2.2 (N.stepA x b).1 k = true) ∧ Twn (M.stepA x b).2.2 (N.stepA x b).2.2 := by
  refine ⟨fun hw => ?_, fun hw => apart_out hT hA hM hN x b (fun i hi e h => hw (by rw [e, coreA_in hi]; exact h)), ⟨?_, fun i hi => ?_⟩⟩
  · unfold Ma.coreA at hw
    by_cases hx : x < 0 ∨ (M.nc : Int) ≤ x
    · rw [if_pos hx] at hw
      have : (0 : Int) = k := hw
      omega
    · rw [if_neg hx] at hw
      obtain ⟨i, rfl, hi⟩ := nat_of hx
      rw [Int.toNat_natCast] at hw
      have hse := hA.se i hi (.inl hw)
      unfold Ma.stepA
      rw [hT.nc, if_neg hx, if_neg hx, Int.toNat_natCast, ← hse.2.2.2]
      cases ho : (M.se i).ov
      · obtain ⟨h1, h2⟩ := apart_in hT hA hM hk i hi b hw ho
        exact ⟨h1, rfl, h2⟩
      · exact ⟨rfl, rfl, hA⟩
  · rw [stepA_c, stepA_c, hT.c]
  · rw [stepA_ps, stepA_ps]
    exact hT.ps i (by unfold Ma.nc at hi ⊢; rwa [stepA_c] at hi)
theorem ev_bound (M : Ma) (hg : M.Good) (x : Int) (b : Bool) : (M.stepA x b).1.cd = 0 → (M.stepA x b).1.op = 4 ∨ (M.stepA x b).1.op = 5 → (M.stepA x b).1.wd ≤ 100 := by
  unfold Ma.stepA
  split
  · intro _ _; show (0 : Int) ≤ 100; omega
  split
  · intro _ _; show (0 : Int) ≤ 100; omega
  intro h0 h45
  have hop : (M.ins x.toNat).op = 4 ∨ (M.ins x.toNat).op = 5 := by
    have := (step_ev M x.toNat b).2.2.1
    rw [this] at h45
    exact h45
  have hst := st3 M x.toNat b (by omega)
  rw [hst] at h0 ⊢
  dsimp only at h0 ⊢
  unfold Ma.acc at h0
  dsimp only at h0
  split at h0
  · rename_i hm
    obtain ⟨kw, hkw, hkl, _⟩ := may_true hm
    have := Ma.n_of hg.1
    omega
  · cases h0
end Go.Proofs.YtkobeajbiendlaaDoor
