/- What this text holds: plain laws of a machine's step: which words, owners and cores it turns. No condition. -/
import Derived.Test.YtkobeajbiendlaaDoorPl11
namespace Go.Proofs.YtkobeajbiendlaaDoor
open Go.RowKit

theorem put_wd (m : Mm) (l : Nat) (x y : Int) (k : Nat) : (m.put l x y).wd k = if k = 2 * l + 1 then y else if k = 2 * l then x else m.wd k := rfl
theorem scrub_wd (m : Mm) (g k : Nat) : (m.scrub g).wd k = if k / 4 = g then 0 else m.wd k := by
  unfold Mm.scrub
  rw [put_wd, put_wd]
  by_cases h : k / 4 = g
  · rw [if_pos h]
    have : k = 4 * g ∨ k = 4 * g + 1 ∨ k = 4 * g + 2 ∨ k = 4 * g + 3 := by omega
    rcases this with e | e | e | e
    · rw [if_neg (by omega), if_neg (by omega), if_neg (by omega), if_pos (by omega)]
    · rw [if_neg (by omega), if_neg (by omega), if_pos (by omega)]
    · rw [if_neg (by omega), if_pos (by omega)]
    · rw [if_pos (by omega)]
  · rw [if_neg h, if_neg (by omega), if_neg (by omega), if_neg (by omega), if_neg (by omega)]
theorem getA_in {M : Ma} {k : Nat} (h : k < 2 * M.m.n) : M.getA k = (M.m.wd k, 0) := by unfold Ma.getA; rw [if_neg (by omega), Int.toNat_natCast]
theorem ownA_in {M : Ma} {k : Nat} (h : k < M.ng) : M.ownA k = (M.ow k, 0) := by unfold Ma.ownA; rw [if_neg (by omega), Int.toNat_natCast]
theorem coreA_in {M : Ma} {k : Nat} (h : k < M.nc) : M.coreA k = (M.se k, 0) := by unfold Ma.coreA; rw [if_neg (by omega), Int.toNat_natCast]
/-- What a call of the monitor leaves. -/
theorem call_left (M : Ma) (ca wo gr tw : Int) (b : Bool) : ((M.call ca wo gr tw b).1 ≠ 0 → (M.call ca wo gr tw b).2 = M) ∧
    ((M.call ca wo gr tw b).1 = 0 → ∃ g : Nat, gr = g ∧ g < M.ng ∧ (∀ k, (M.call ca wo gr tw b).2.m.wd k = M.m.wd k ∨ (k / 4 = g ∧ (M.call ca wo gr tw b).2.m.wd k = 0)) ∧ (∀ k, k ≠ g → (M.call ca wo gr tw b).2.ow k = M.ow k)) ∧ (M.call ca wo gr tw b).2.se = M.se := by
  unfold Ma.call
  split
  · exact ⟨fun _ => rfl, fun h => absurd h (by simp), rfl⟩
  rename_i hgr
  split
  · exact ⟨fun _ => rfl, fun h => absurd h (by simp), rfl⟩
  dsimp only
  split
  · rename_i hj
    exact ⟨fun _ => rfl, fun h => absurd h hj, rfl⟩
  · refine ⟨fun h => absurd rfl h, fun _ => ⟨gr.toNat, by omega, by omega, fun k => ?_, fun k hk => ?_⟩, ?_⟩
    · dsimp only
      split
      · show (M.m.scrub gr.toNat).wd k = M.m.wd k ∨ _
        rw [scrub_wd]
        by_cases hk : k / 4 = gr.toNat
        · exact .inr ⟨hk, by rw [if_pos hk]⟩
        · rw [if_neg hk]
          exact .inl rfl
      · exact .inl rfl
    · dsimp only
      split
      · exact updN_ne _ _ hk
      · exact updN_ne _ _ hk
    · dsimp only
      split <;> rfl
/-- What an access leaves. -/
theorem acc_left (M : Ma) (i : Nat) (x : Ins) (hx : x.op = 3 ∨ x.op = 4 ∨ x.op = 5) : ((M.acc i x).2.1 = 19 ∧ (M.acc i x).2.2 = M) ∨
    ((M.acc i x).2.1 = 0 ∧ (M.acc i x).2.2.ow = M.ow ∧ (∀ k, (M.acc i x).2.2.m.wd k = M.m.wd k ∨ ((x.op = 4 ∨ x.op = 5) ∧ (M.se i).r x.b.toNat = k ∧ mayT (M.se i).wo (M.ow (k / 4)) = true)) ∧ (∀ k, ((M.acc i x).2.2.se k).wo = (M.se k).wo) ∧ (∀ k, ((M.acc i x).2.2.se k).a = (M.se k).a)) := by
  unfold Ma.acc
  dsimp only
  split
  case isFalse => exact .inl ⟨rfl, rfl⟩
  rename_i hm
  obtain ⟨kw, hkw, _, hmt⟩ := may_true hm
  have reg : ∀ (N : Ma) (v : Int), (∀ k, ((N.setReg i x.a.toNat v).se k).wo = (N.se k).wo) ∧ (∀ k, ((N.setReg i x.a.toNat v).se k).a = (N.se k).a) := fun N v => by
    refine ⟨fun k => ?_, fun k => ?_⟩ <;> by_cases h : k = i
    · subst h; show (updN N.se k _ k).wo = _; rw [updN_same]
    · show (updN N.se i _ k).wo = _; rw [updN_ne _ _ h]
    · subst h; show (updN N.se k _ k).a = _; rw [updN_same]
    · show (updN N.se i _ k).a = _; rw [updN_ne _ _ h]
  have word : ∀ (v : Int) (k : Nat), updN M.m.wd ((M.se i).r x.b.toNat).toNat v k = M.m.wd k ∨ ((M.se i).r x.b.toNat = k ∧ mayT (M.se i).wo (M.ow (k / 4)) = true) := fun v k => by
    by_cases h : k = ((M.se i).r x.b.toNat).toNat
    · refine .inr ⟨by omega, ?_⟩
      have : k = kw := by omega
      rw [this]
      exact hmt
    · exact .inl (updN_ne _ _ h)
  split
  · rename_i h3
    exact .inr ⟨rfl, rfl, fun k => .inl rfl, (reg M _).1, (reg M _).2⟩
  split
  · rename_i h3 h4
    exact .inr ⟨rfl, rfl, fun k => (word _ k).imp id fun h => ⟨.inl h4, h⟩, fun _ => rfl, fun _ => rfl⟩
  · rename_i h3 h4
    exact .inr ⟨rfl, rfl, fun k => (word _ k).imp id fun h => ⟨.inr (by omega), h⟩, (reg { M with m := M.m.setWd _ _ } _).1, (reg { M with m := M.m.setWd _ _ } _).2⟩
/-- What a step leaves of words, owners, and of its core. -/
theorem keeps_ev (M : Ma) (hg : M.Good) (x : Int) (b : Bool) : ∃ (co a op wo wd va cd f : Int) (M1 : Ma), M.stepA x b = (⟨co, a, op, wo, wd, va, cd⟩, f, M1) ∧
    (∀ k, M1.m.wd k ≠ M.m.wd k → (f = 0 ∧ cd = 0 ∧ (op = 4 ∨ op = 5) ∧ wd = (k : Int) ∧ mayT wo (M.ow (k / 4)) = true) ∨ (f = 0 ∧ op = 8 ∧ cd = 0 ∧ wd = ((k / 4 : Nat) : Int) ∧ M1.m.wd k = 0)) ∧
    (∀ g, M1.ow g ≠ M.ow g → f = 0 ∧ op = 8 ∧ cd = 0 ∧ wd = (g : Int)) ∧
    (f = 0 → ∃ i : Nat, co = i ∧ i < M.nc ∧ ((cd = 19 ∧ (M1.se i).r = (M.se i).r ∧ (M1.se i).wo = (M.se i).wo ∧ (M1.se i).a = (M.se i).a + 1 ∧ 0 ≤ (M.se i).a ∧ (M.se i).a ≤ 32) ∨ (cd ≠ 19 ∧ (M1.se i).wo = (M.se i).wo) ∨ (cd ≠ 19 ∧ op = 7 ∧ (M.se i).wo = 0))) := by
  unfold Ma.stepA
  split
  · exact ⟨0, 0, 0, 0, 0, 0, 0, 10, M, rfl, fun k h => absurd rfl h, fun k h => absurd rfl h, fun h => absurd h (by decide)⟩
  rename_i hx
  split
  · exact ⟨0, 0, 0, 0, 0, 0, 0, 20, M, rfl, fun k h => absurd rfl h, fun k h => absurd rfl h, fun h => absurd h (by decide)⟩
  rename_i hov
  obtain ⟨i, rfl, hi⟩ := nat_of hx
  rw [Int.toNat_natCast] at hov ⊢
  have he : endB (M.se i).ps (M.se i).a = false := by rw [← (hg.2 i hi).2]; simpa using hov
  obtain ⟨ka, hka, hkl, _⟩ := endB_no he
  have ha0 : 0 ≤ (M.se i).a ∧ (M.se i).a ≤ 32 := by have := (hg.2 i hi).1.1; omega
  refine ⟨(M.step i b).1.co, (M.step i b).1.a, (M.step i b).1.op, (M.step i b).1.wo, (M.step i b).1.wd, (M.step i b).1.va, (M.step i b).1.cd, 0, (M.step i b).2, rfl, ?_⟩
  have tw : ∀ (X : Ma) (a : Int), ((X.turn i a).se i).wo = (X.se i).wo ∧ ((X.turn i a).se i).r = (X.se i).r ∧ ((X.turn i a).se i).a = a := fun X a => by
    show (updN X.se i _ i).wo = _ ∧ (updN X.se i _ i).r = _ ∧ (updN X.se i _ i).a = _
    rw [updN_same]
    exact ⟨rfl, rfl, rfl⟩
  have same : ∀ (X : Ma) (a : Int) (cd : Int), X.m = M.m → X.ow = M.ow → (X.se i).wo = (M.se i).wo → cd ≠ 19 → ∀ (op wd wo : Int),
      (∀ k, (X.turn i a).m.wd k ≠ M.m.wd k → ((0 : Int) = 0 ∧ cd = 0 ∧ (op = 4 ∨ op = 5) ∧ wd = (k : Int) ∧ mayT wo (M.ow (k / 4)) = true) ∨ ((0 : Int) = 0 ∧ op = 8 ∧ cd = 0 ∧ wd = ((k / 4 : Nat) : Int) ∧ (X.turn i a).m.wd k = 0)) ∧
      (∀ g, (X.turn i a).ow g ≠ M.ow g → (0 : Int) = 0 ∧ op = 8 ∧ cd = 0 ∧ wd = (g : Int)) ∧
      ((0 : Int) = 0 → ∃ j : Nat, (i : Int) = j ∧ j < M.nc ∧ ((cd = 19 ∧ ((X.turn i a).se j).r = (M.se j).r ∧ ((X.turn i a).se j).wo = (M.se j).wo ∧ ((X.turn i a).se j).a = (M.se j).a + 1 ∧ 0 ≤ (M.se j).a ∧ (M.se j).a ≤ 32) ∨ (cd ≠ 19 ∧ ((X.turn i a).se j).wo = (M.se j).wo) ∨ (cd ≠ 19 ∧ op = 7 ∧ (M.se j).wo = 0))) := by
    intro X a cd h1 h2 h3 h4 op wd wo
    refine ⟨fun k h => absurd (show (X.turn i a).m.wd k = M.m.wd k by show X.m.wd k = _; rw [h1]) h, fun g h => absurd (show (X.turn i a).ow g = M.ow g by show X.ow g = _; rw [h2]) h, fun _ => ⟨i, rfl, hi, .inr (.inl ⟨h4, ((tw X a).1).trans h3⟩)⟩⟩
  have swo : ∀ (N : Ma) (k : Nat) (v : Int), ((N.setReg i k v).se i).wo = (N.se i).wo := fun N k v => by show (updN N.se i _ i).wo = _; rw [updN_same]
  unfold Ma.step
  dsimp only
  split
  · exact same (M.setReg i _ _) _ 0 rfl rfl (swo M _ _) (by decide) _ _ _
  split
  · exact same (M.setReg i _ _) _ 0 rfl rfl (swo M _ _) (by decide) _ _ _
  split
  · rename_i h345
    rcases acc_left M i (atI (M.se i).ps (M.se i).a.toNat) h345 with ⟨e1, e2⟩ | ⟨e1, e2, e3, e4, e5⟩
    · rw [e1, e2]
      refine ⟨fun k h => absurd rfl h, fun g h => absurd rfl h, fun _ => ⟨i, rfl, hi, .inl ⟨rfl, (tw M _).2.1, (tw M _).1, (tw M _).2.2, ha0.1, ha0.2⟩⟩⟩
    · rw [e1]
      refine ⟨fun k h => ?_, fun g h => absurd (congrFun e2 g) h, fun _ => ⟨i, rfl, hi, .inr (.inl ⟨(show (0 : Int) ≠ 19 by decide), ((tw _ _).1).trans (e4 i)⟩)⟩⟩
      rcases e3 k with h1 | ⟨h1, h2, h3⟩
      · exact absurd h1 h
      · exact .inl ⟨rfl, rfl, h1, h2, h3⟩
  split
  · rename_i h7
    split
    · rename_i h0
      refine ⟨fun k h => absurd rfl h, fun g h => absurd rfl h, fun _ => ⟨i, rfl, hi, .inr (.inr ⟨(show (0 : Int) ≠ 19 by decide), h7, h0⟩)⟩⟩
    · exact same _ _ 18 rfl rfl rfl (by decide) _ _ _
  split
  · rename_i h8
    obtain ⟨c1, c2, c3⟩ := call_left M (atI (M.se i).ps (M.se i).a.toNat).a (M.se i).wo ((M.se i).r (atI (M.se i).ps (M.se i).a.toNat).b.toNat) ((M.se i).r (atI (M.se i).ps (M.se i).a.toNat).c.toNat) b
    have c19 : (M.call (atI (M.se i).ps (M.se i).a.toNat).a (M.se i).wo ((M.se i).r (atI (M.se i).ps (M.se i).a.toNat).b.toNat) ((M.se i).r (atI (M.se i).ps (M.se i).a.toNat).c.toNat) b).1 ≠ 19 := by
      cases b
      · exact (call_code _ _ _ _ _).2
      · unfold Ma.call
        split
        · simp
        · simp
    generalize M.call (atI (M.se i).ps (M.se i).a.toNat).a (M.se i).wo ((M.se i).r (atI (M.se i).ps (M.se i).a.toNat).b.toNat) ((M.se i).r (atI (M.se i).ps (M.se i).a.toNat).c.toNat) b = cl at c1 c2 c3 c19 ⊢
    obtain ⟨cc, X⟩ := cl
    dsimp only at c1 c2 c3 c19 ⊢
    by_cases hz : cc = 0
    · obtain ⟨g, hg', _, hw, ho⟩ := c2 hz
      refine ⟨fun k h => ?_, fun g2 h => ?_, fun _ => ⟨i, rfl, hi, .inr (.inl ⟨c19, ((tw _ _).1).trans ((swo _ _ _).trans (by rw [c3]))⟩)⟩⟩
      · rcases hw k with h1 | ⟨h1, h2⟩
        · exact absurd h1 h
        · exact .inr ⟨rfl, h8, hz, by rw [hg', h1], h2⟩
      · refine ⟨rfl, h8, hz, ?_⟩
        by_cases hgg : g2 = g
        · rw [hg', hgg]
        · exact absurd (ho g2 hgg) h
    · have hX := c1 hz
      subst hX
      exact same (X.setReg i _ _) _ cc rfl rfl (swo X _ _) c19 _ _ _
  split
  · exact same _ _ 0 rfl rfl rfl (by decide) _ _ _
  split
  · exact same _ _ 0 rfl rfl rfl (by decide) _ _ _
  · exact same _ _ 0 rfl rfl rfl (by decide) _ _ _
end Go.Proofs.YtkobeajbiendlaaDoor
