/- What this text holds: plain laws of a machine: places, worlds and owners stay within their bounds. No condition. -/
import Derived.Test.YtkobeajbiendlaaDoorPl11C
namespace Go.Proofs.YtkobeajbiendlaaDoor
open Go.RowKit

/-- Places, worlds and owners are within their bounds. -/
structure Ma.Rng (M : Ma) : Prop where
  a : ∀ i, i < M.nc → 0 ≤ (M.se i).a
  wo : ∀ i, i < M.nc → 0 ≤ (M.se i).wo ∧ (M.se i).wo ≤ 3
  ow : ∀ g, g < M.ng → 0 ≤ M.ow g ∧ M.ow g ≤ 4
theorem judge_then {ca wo o tw : Int} (h0 : (judge ca wo o tw).2.2 = 0) : 0 ≤ (judge ca wo o tw).1 ∧ (judge ca wo o tw).1 ≤ 4 := by
  unfold judge at h0 ⊢
  (repeat' split) <;> simp_all <;> omega
theorem call_ow {M : Ma} (h : ∀ g, g < M.ng → 0 ≤ M.ow g ∧ M.ow g ≤ 4) (ca wo gr tw : Int) (b : Bool) : ∀ g, g < M.ng → 0 ≤ (M.call ca wo gr tw b).2.ow g ∧ (M.call ca wo gr tw b).2.ow g ≤ 4 := by
  unfold Ma.call
  split
  · exact h
  split
  · exact h
  dsimp only
  split
  · exact h
  · rename_i hj
    have hj0 : (judge ca wo (M.ow gr.toNat) tw).2.2 = 0 := by simpa using hj
    have ht := judge_then hj0
    intro g hg
    have e : 0 ≤ updN M.ow gr.toNat (judge ca wo (M.ow gr.toNat) tw).1 g ∧ updN M.ow gr.toNat (judge ca wo (M.ow gr.toNat) tw).1 g ≤ 4 := by
      by_cases hgg : g = gr.toNat
      · rw [hgg, updN_same]; exact ht
      · rw [updN_ne _ _ hgg]; exact h g hg
    dsimp only
    split
    · exact e
    · exact e
theorem Ma.Rng.step {M : Ma} (h : M.Rng) (hg : M.Good) (i : Nat) (hi : i < M.nc) (hov : (M.se i).ov = false) (b : Bool) : (M.step i b).2.Rng := by
  have lk := lk_step M i b
  have he : endB (M.se i).ps (M.se i).a = false := by rw [← (hg.2 i hi).2]; exact hov
  obtain ⟨q, hq, hql, h11⟩ := endB_no he
  obtain ⟨x, hxx, x1, x12, g1, g2, g3, g8, g9, g10, g7⟩ := good_at (hg.2 i hi).1 hql
  have hxM : M.ins i = x := by unfold Ma.ins; rw [hq, Int.toNat_natCast]; exact hxx
  have hai := h.a i hi
  have hwi := h.wo i hi
  have key : (0 ≤ ((M.step i b).2.se i).a ∧ (0 ≤ ((M.step i b).2.se i).wo ∧ ((M.step i b).2.se i).wo ≤ 3)) ∧ ∀ g, g < M.ng → 0 ≤ (M.step i b).2.ow g ∧ (M.step i b).2.ow g ≤ 4 := by
    have h15 : x.op = 1 ∨ x.op = 2 ∨ (x.op = 3 ∨ x.op = 4 ∨ x.op = 5) ∨ (x.op = 6 ∨ x.op = 11) ∨ x.op = 7 ∨ x.op = 8 ∨ x.op = 9 ∨ x.op = 10 := by omega
    rcases h15 with h1 | h1 | h1 | h1 | h1 | h1 | h1 | h1
    · rw [st1 M i b (by rw [hxM]; exact h1)]
      refine ⟨?_, h.ow⟩
      rw [se_turn, se_reg]
      exact ⟨by show 0 ≤ (M.se i).a + 1; omega, hwi⟩
    · rw [st2 M i b (by rw [hxM]; exact h1)]
      refine ⟨?_, h.ow⟩
      rw [se_turn, se_reg]
      exact ⟨by show 0 ≤ (M.se i).a + 1; omega, hwi⟩
    · rw [st3 M i b (by rw [hxM]; exact h1)]
      have hl : ((M.acc i (M.ins i)).2.2.se i).wo = (M.se i).wo ∧ (M.acc i (M.ins i)).2.2.ow = M.ow := by
        rcases acc_left M i (M.ins i) (by rw [hxM]; exact h1) with ⟨_, e2⟩ | ⟨_, e2, _, e4, _⟩
        · rw [e2]; exact ⟨rfl, rfl⟩
        · exact ⟨e4 i, e2⟩
      refine ⟨?_, ?_⟩
      · rw [se_turn]
        exact ⟨by show 0 ≤ (M.se i).a + 1; omega, by show 0 ≤ ((M.acc i (M.ins i)).2.2.se i).wo ∧ ((M.acc i (M.ins i)).2.2.se i).wo ≤ 3; rw [hl.1]; exact hwi⟩
      · show ∀ g, g < M.ng → 0 ≤ (M.acc i (M.ins i)).2.2.ow g ∧ (M.acc i (M.ins i)).2.2.ow g ≤ 4
        rw [hl.2]
        exact h.ow
    · rw [st6 M i b (by rw [hxM]; exact h1)]
      refine ⟨?_, h.ow⟩
      rw [se_turn]
      exact ⟨by show 0 ≤ (M.se i).a + 1; omega, hwi⟩
    · by_cases hw : (M.se i).wo = 0
      · have hs : M.step i b = (⟨i, (M.se i).a, (M.ins i).op, (M.se i).wo, 0, (M.ins i).a, 0⟩, (M.setWo i (M.ins i).a).turn i ((M.se i).a + 1)) := by
          have h7 : (M.ins i).op = 7 := by rw [hxM]; exact h1
          unfold Ma.ins at h7 ⊢
          unfold Ma.step
          dsimp only
          rw [if_neg (by omega), if_neg (by omega), if_neg (by omega), if_pos h7, if_pos hw]
        rw [hs]
        refine ⟨?_, h.ow⟩
        rw [se_turn, se_wo]
        have h3 := g7 h1
        exact ⟨by show 0 ≤ (M.se i).a + 1; omega, by show 0 ≤ (M.ins i).a ∧ (M.ins i).a ≤ 3; rw [hxM]; omega⟩
      · rw [st7 M i b (by rw [hxM]; exact h1) hw]
        refine ⟨?_, h.ow⟩
        rw [se_turn]
        exact ⟨by show 0 ≤ (M.se i).a + 1; omega, hwi⟩
    · rw [st8 M i b (by rw [hxM]; exact h1)]
      have hs := (call_left M (M.ins i).a (M.se i).wo ((M.se i).r (M.ins i).b.toNat) ((M.se i).r (M.ins i).c.toNat) b).2.2
      refine ⟨?_, call_ow h.ow _ _ _ _ _⟩
      rw [se_turn, se_reg, hs]
      exact ⟨by show 0 ≤ (M.se i).a + 1; omega, hwi⟩
    · rw [st9 M i b (by rw [hxM]; exact h1)]
      refine ⟨?_, h.ow⟩
      rw [se_turn]
      exact ⟨by show 0 ≤ (M.ins i).a; rw [hxM]; exact (g9 h1).1, hwi⟩
    · rw [st10 M i b (by rw [hxM]; exact h1)]
      refine ⟨?_, h.ow⟩
      rw [se_turn]
      refine ⟨?_, hwi⟩
      show 0 ≤ (if (M.se i).r (M.ins i).a.toNat = 0 then (M.ins i).b else (M.se i).a + 1)
      split
      · rw [hxM]; exact (g10 h1).1
      · omega
  refine ⟨fun j hj => ?_, fun j hj => ?_, fun g hgg => key.2 g (by rwa [lk.ng] at hgg)⟩
  · rw [lk.nc] at hj
    by_cases hji : j = i
    · rw [hji]; exact key.1.1
    · rw [lk.se j hji]; exact h.a j hj
  · rw [lk.nc] at hj
    by_cases hji : j = i
    · rw [hji]; exact key.1.2
    · rw [lk.se j hji]; exact h.wo j hj
theorem Ma.Rng.stepA {M : Ma} (h : M.Rng) (hg : M.Good) (x : Int) (b : Bool) : (M.stepA x b).2.2.Rng := by
  unfold Ma.stepA
  split
  · exact h
  rename_i hx
  obtain ⟨i, rfl, hi⟩ := nat_of hx
  rw [Int.toNat_natCast]
  split
  · exact h
  · rename_i ho
    exact h.step hg i hi (by simpa using ho) b
theorem Ma.Rng.new {c : Cfg} {l : List Pr} {ws os ds : List Int} (h : newE11 c l ws os ds = 0) : (maNew c l ws os ds l.length).Rng := by
  have hg : (maNew c l ws os ds l.length).Good := Ma.Good.new h
  have hn := Ma.n_of hg.1
  unfold newE11 at h
  split at h
  · cases h
  rename_i hc
  split at h
  · cases h
  rename_i h2
  split at h
  · rename_i hb
    exact absurd h hb
  split at h
  · cases h
  rename_i h4
  have hw : allIn 0 3 ws = true := by
    cases hh : allIn 0 3 ws
    · exact absurd (.inl hh) h4
    · rfl
  have ho : allIn 0 4 os = true := by
    cases hh : allIn 0 4 os
    · exact absurd (.inr hh) h4
    · rfl
  have get : ∀ (lo hi : Int) (xs : List Int), lo ≤ 0 → 0 ≤ hi → allIn lo hi xs = true → ∀ i : Nat, lo ≤ xs[i]?.getD 0 ∧ xs[i]?.getD 0 ≤ hi := fun lo hi xs h1 h2 ha i => by
    by_cases hi' : i < xs.length
    · rw [List.getElem?_eq_getElem hi']
      unfold allIn at ha
      have := List.all_eq_true.1 ha xs[i] (List.getElem_mem hi')
      simp at this
      exact this
    · rw [List.getElem?_eq_none (by omega)]
      exact ⟨h1, h2⟩
  refine ⟨fun i _ => ?_, fun i _ => ?_, fun g _ => get 0 4 os (by omega) (by omega) ho g⟩
  · show 0 ≤ (seNew l ws l.length i).a
    unfold seNew
    split
    · exact Int.le_refl _
    · exact Int.le_refl _
  · show 0 ≤ (seNew l ws l.length i).wo ∧ (seNew l ws l.length i).wo ≤ 3
    unfold seNew
    split
    · exact get 0 3 ws (by omega) (by omega) hw i
    · exact ⟨Int.le_refl _, by show (0 : Int) ≤ 3; omega⟩
end Go.Proofs.YtkobeajbiendlaaDoor
