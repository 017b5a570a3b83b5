/- What this text holds: calls of two granules do not count for one another, in plain words. No condition. -/
import Derived.Test.YtjggnhcdnfmmeaaPl14B
namespace Go.Proofs.Ytjggnhcdnfmmeaa
open Go.RowKit Go.Maps

/-- What is said of one granule. -/
abbrev Gv := En × Option Ru
def cR (e : En) (a : Ak) : Int := (judge a.ca a.wo e.1 a.to).2.2
def cV (e : En) (a : Ak) : Gv := if cR e a = 0 then ((e.1, true), some ⟨a, (judge a.ca a.wo e.1 a.to).1, (judge a.ca a.wo e.1 a.to).2.1, 1, fun i => decide ((i : Int) < 2)⟩) else (e, none)
def dV (v : Gv) (co : Int) : Gv := if (ruO v.2).ph ≠ 1 then v else if co < 0 ∨ 2 ≤ co ∨ (ruO v.2).w co.toNat = false then v else (v.1, some ((ruO v.2).drop co.toNat))
def sR (v : Gv) : Td × Int := if (ruO v.2).ph ≠ 2 then (Td.zero, 16) else (⟨(ruO v.2).a, (ruO v.2).th, (ruO v.2).sc⟩, 0)
def sV (v : Gv) : Gv := if (ruO v.2).ph ≠ 2 then v else (((ruO v.2).th, false), none)
/-- One granule alone was turned. -/
structure Up (s s' : Ms) (k : Nat) (v : Gv) : Prop where
  len : s'.es.length = s.es.length
  e : atE s'.es k = v.1
  o : ∀ i, i ≠ k → i < s.es.length → atE s'.es i = atE s.es i
  f : s'.F k = v.2
  g : ∀ j : Int, j ≠ k → s'.F j = s.F j
theorem Up.same {s : Ms} {k : Nat} : Up s s k (atE s.es k, s.F k) := ⟨rfl, rfl, fun _ _ _ => rfl, rfl, fun _ _ => rfl⟩
theorem Up.set {s : Ms} {k : Nat} (hk : k < s.es.length) (x : En) (y : Option Ru) : Up s ⟨s.es.set k x, updI s.F k y⟩ k (x, y) :=
  ⟨by simp, by show atE (s.es.set k x) k = x; rw [atE_set _ _ _ _ hk, if_pos rfl], fun i hi hl => by show atE (s.es.set k x) i = _; rw [atE_set _ _ _ _ hl, if_neg (Ne.symm hi)], updI_same _ _ _, fun _ hj => updI_ne _ _ hj⟩
theorem Up.run {s : Ms} {k : Nat} (y : Option Ru) : Up s ⟨s.es, updI s.F k y⟩ k (atE s.es k, y) :=
  ⟨rfl, rfl, fun _ _ _ => rfl, updI_same _ _ _, fun _ hj => updI_ne _ _ hj⟩
theorem call_up {s : Ms} {k : Nat} (hk : k < s.es.length) (a : Ak) (hg : a.gr = k) (hc : 0 ≤ a.co ∧ a.co < 2) (hb : busyC s.F a.co = false) (hn : s.F k = none) : (s.call 2 a).1 = cR (atE s.es k) a ∧ Up s (s.call 2 a).2 k (cV (atE s.es k) a) := by
  have ht : a.gr.toNat = k := by omega
  have hn' : s.F a.gr = none := by rw [hg]; exact hn
  unfold Ms.call
  rw [if_neg (by omega), if_neg (by omega), hn', if_neg (by simp), hb, if_neg (by simp), ht]
  unfold cV
  by_cases h : cR (atE s.es k) a = 0
  · have h' : ¬ (judge a.ca a.wo (atE s.es k).1 a.to).2.2 ≠ 0 := fun h2 => h2 h
    rw [if_neg h', if_pos h, hg]
    exact ⟨h.symm, Up.set hk _ _⟩
  · have h' : (judge a.ca a.wo (atE s.es k).1 a.to).2.2 ≠ 0 := h
    rw [if_pos h', if_neg h]
    refine ⟨rfl, ?_⟩
    have := Up.same (s := s) (k := k)
    rw [hn] at this
    exact this
theorem drop_up {s : Ms} {k : Nat} (hk : k < s.es.length) (co : Int) : Up s (s.drop 2 k co).2.2 k (dV (atE s.es k, s.F k) co) := by
  unfold Ms.drop dV
  rw [if_neg (by omega)]
  split
  · exact Up.same
  · split
    · exact Up.same
    · exact Up.run _
theorem swept_up {s : Ms} {k : Nat} (hk : k < s.es.length) : (s.swept k).1 = (sR (atE s.es k, s.F k)).1 ∧ (s.swept k).2.1 = (sR (atE s.es k, s.F k)).2 ∧ Up s (s.swept k).2.2 k (sV (atE s.es k, s.F k)) := by
  unfold Ms.swept sR sV
  rw [if_neg (by omega)]
  split
  · exact ⟨rfl, rfl, Up.same⟩
  · exact ⟨rfl, rfl, by simp only [Int.toNat_natCast]; exact Up.set hk _ _⟩
/-- What is said of all granules. -/
structure Sv (E : List En) (s : Ms) (v0 v1 : Gv) : Prop where
  len : s.es.length = E.length
  h0 : (atE s.es 0, s.F 0) = v0
  h1 : (atE s.es 1, s.F 1) = v1
  es : ∀ i, 2 ≤ i → i < E.length → atE s.es i = atE E i
  F : ∀ k : Int, k ≠ 0 → k ≠ 1 → s.F k = none
section
variable {E : List En} {s s' : Ms} {v0 v1 v : Gv}
theorem Sv.up0 (h : Sv E s v0 v1) (u : Up s s' 0 v) (hl : 2 ≤ E.length) : Sv E s' v v1 :=
  ⟨u.len.trans h.len, by rw [show s'.F 0 = v.2 from u.f, u.e], by rw [u.o 1 (by decide) (by rw [h.len]; omega), show s'.F 1 = s.F 1 from u.g 1 (by decide)]; exact h.h1, fun i h2 h3 => (u.o i (by omega) (by rw [h.len]; exact h3)).trans (h.es i h2 h3), fun k k0 k1 => (u.g k (by simpa using k0)).trans (h.F k k0 k1)⟩
theorem Sv.up1 (h : Sv E s v0 v1) (u : Up s s' 1 v) (hl : 2 ≤ E.length) : Sv E s' v0 v :=
  ⟨u.len.trans h.len, by rw [u.o 0 (by decide) (by rw [h.len]; omega), show s'.F 0 = s.F 0 from u.g 0 (by decide)]; exact h.h0, by rw [show s'.F 1 = v.2 from u.f, u.e], fun i h2 h3 => (u.o i (by omega) (by rw [h.len]; exact h3)).trans (h.es i h2 h3), fun k k0 k1 => (u.g k (by simpa using k1)).trans (h.F k k0 k1)⟩
theorem Sv.busy (h : Sv E s v0 v1) {co : Int} (h0 : ∀ r, v0.2 = some r → r.a.co ≠ co) (h1 : ∀ r, v1.2 = some r → r.a.co ≠ co) : busyC s.F co = false := busy_no (fun k r hr => by
  by_cases k0 : k = 0
  · subst k0; exact h0 r (by rw [← h.h0]; exact hr)
  · by_cases k1 : k = 1
    · subst k1; exact h1 r (by rw [← h.h1]; exact hr)
    · rw [h.F k k0 k1] at hr; cases hr)
theorem Sv.call0 (h : Sv E s v0 v1) (hl : 2 ≤ E.length) (a : Ak) (ha : a.co = 0 ∧ a.gr = 0) (hn : v0.2 = none) (h1 : ∀ r, v1.2 = some r → r.a.co ≠ 0) : (s.call 2 a).1 = cR v0.1 a ∧ Sv E (s.call 2 a).2 (cV v0.1 a) v1 := by
  have e0 : atE s.es 0 = v0.1 := by rw [← h.h0]
  have f0 : s.F 0 = none := by rw [← hn, ← h.h0]
  have := call_up (s := s) (k := 0) (by rw [h.len]; omega) a ha.2 (by omega) (h.busy (fun r hr => by rw [hn] at hr; cases hr) (by rw [ha.1]; exact h1)) f0
  rw [e0] at this
  exact ⟨this.1, h.up0 this.2 hl⟩
theorem Sv.call1 (h : Sv E s v0 v1) (hl : 2 ≤ E.length) (a : Ak) (ha : a.co = 1 ∧ a.gr = 1) (hn : v1.2 = none) (h1 : ∀ r, v0.2 = some r → r.a.co ≠ 1) : (s.call 2 a).1 = cR v1.1 a ∧ Sv E (s.call 2 a).2 v0 (cV v1.1 a) := by
  have e0 : atE s.es 1 = v1.1 := by rw [← h.h1]
  have f0 : s.F 1 = none := by rw [← hn, ← h.h1]
  have := call_up (s := s) (k := 1) (by rw [h.len]; omega) a ha.2 (by omega) (h.busy (by rw [ha.1]; exact h1) (fun r hr => by rw [hn] at hr; cases hr)) f0
  rw [e0] at this
  exact ⟨this.1, h.up1 this.2 hl⟩
theorem Sv.drop0 (h : Sv E s v0 v1) (hl : 2 ≤ E.length) (co : Int) : Sv E (s.drop 2 0 co).2.2 (dV v0 co) v1 := by
  have := drop_up (s := s) (k := 0) (by rw [h.len]; omega) co
  have h2 := h.h0
  exact h.up0 (by rw [← h2]; exact this) hl
theorem Sv.drop1 (h : Sv E s v0 v1) (hl : 2 ≤ E.length) (co : Int) : Sv E (s.drop 2 1 co).2.2 v0 (dV v1 co) := by
  have := drop_up (s := s) (k := 1) (by rw [h.len]; omega) co
  have h2 := h.h1
  exact h.up1 (by rw [← h2]; exact this) hl
theorem Sv.swept0 (h : Sv E s v0 v1) (hl : 2 ≤ E.length) : (s.swept 0).1 = (sR v0).1 ∧ (s.swept 0).2.1 = (sR v0).2 ∧ Sv E (s.swept 0).2.2 (sV v0) v1 := by
  obtain ⟨q1, q2, q3⟩ := swept_up (s := s) (k := 0) (by rw [h.len]; omega)
  have h2 := h.h0
  refine ⟨by rw [← h2]; exact q1, by rw [← h2]; exact q2, h.up0 (by rw [← h2]; exact q3) hl⟩
theorem Sv.swept1 (h : Sv E s v0 v1) (hl : 2 ≤ E.length) : (s.swept 1).1 = (sR v1).1 ∧ (s.swept 1).2.1 = (sR v1).2 ∧ Sv E (s.swept 1).2.2 v0 (sV v1) := by
  obtain ⟨q1, q2, q3⟩ := swept_up (s := s) (k := 1) (by rw [h.len]; omega)
  have h2 := h.h1
  refine ⟨by rw [← h2]; exact q1, by rw [← h2]; exact q2, h.up1 (by rw [← h2]; exact q3) hl⟩
end
/-- One granule's own run, the cores in either order. -/
theorem run_end (e : En) (a : Ak) : (cR e a = 0 → sR (dV (dV (cV e a) 0) 1) = (⟨a, (judge a.ca a.wo e.1 a.to).1, (judge a.ca a.wo e.1 a.to).2.1⟩, 0) ∧ sV (dV (dV (cV e a) 0) 1) = (((judge a.ca a.wo e.1 a.to).1, false), none) ∧ sR (dV (dV (cV e a) 1) 0) = (⟨a, (judge a.ca a.wo e.1 a.to).1, (judge a.ca a.wo e.1 a.to).2.1⟩, 0) ∧ sV (dV (dV (cV e a) 1) 0) = (((judge a.ca a.wo e.1 a.to).1, false), none)) ∧
    (cR e a ≠ 0 → dV (dV (cV e a) 0) 1 = (e, none) ∧ dV (dV (cV e a) 1) 0 = (e, none)) := by
  constructor
  · intro h
    unfold cV
    rw [if_pos h]
    generalize judge a.ca a.wo e.1 a.to = j
    exact ⟨rfl, rfl, rfl, rfl⟩
  · intro h
    unfold cV
    rw [if_neg h]
    exact ⟨rfl, rfl⟩
theorem run_eq (e : En) (a : Ak) : sR (dV (dV (cV e a) 0) 1) = sR (dV (dV (cV e a) 1) 0) ∧ (e.2 = false → (sV (dV (dV (cV e a) 0) 1)).1 = (sV (dV (dV (cV e a) 1) 0)).1 ∧ (sV (dV (dV (cV e a) 0) 1)).1.2 = false ∧ (sV (dV (dV (cV e a) 0) 1)).2 = none) := by
  obtain ⟨h1, h2⟩ := run_end e a
  by_cases h : cR e a = 0
  · obtain ⟨q1, q2, q3, q4⟩ := h1 h
    rw [q1, q2, q3, q4]
    exact ⟨rfl, fun _ => ⟨rfl, rfl, rfl⟩⟩
  · obtain ⟨q1, q2⟩ := h2 h
    rw [q1, q2]
    exact ⟨rfl, fun he => ⟨rfl, he, rfl⟩⟩
theorem cV_co (e : En) (a : Ak) : ∀ r, (cV e a).2 = some r → r.a = a := by
  intro r hr
  unfold cV at hr
  split at hr
  · cases hr; rfl
  · cases hr
theorem dV_co (v : Gv) (co : Int) (a : Ak) (h : ∀ r, v.2 = some r → r.a = a) : ∀ r, (dV v co).2 = some r → r.a = a := by
  intro r hr
  unfold dV at hr
  split at hr
  · exact h r hr
  · rename_i h1
    split at hr
    · exact h r hr
    · cases hf : v.2 with
      | none => rw [hf] at h1; exact absurd (by decide) h1
      | some r0 =>
        have h2 := h r0 hf
        rw [hf] at hr
        have h3 : (Ru.drop (ruO (some r0)) co.toNat) = r := by simpa using hr
        rw [← h3, ← h2]
        unfold Ru.drop
        split <;> rfl
/-- Both done by turns. -/
structure TwM (s0 : Ms) (a b : Ak) (s1 s2 s3 s4 s5 s6 s7 s8 : Ms) : Prop where
  h1 : s1 = (s0.call 2 a).2
  h2 : s2 = (s1.call 2 b).2
  h3 : s3 = (s2.drop 2 0 0).2.2
  h4 : s4 = (s3.drop 2 1 1).2.2
  h5 : s5 = (s4.drop 2 0 1).2.2
  h6 : s6 = (s5.drop 2 1 0).2.2
  h7 : s7 = (s6.swept 1).2.2
  h8 : s8 = (s7.swept 0).2.2
/-- One behind the other. -/
structure TwN (s0 : Ms) (a b : Ak) (t1 t2 t3 t4 t5 t6 t7 t8 : Ms) : Prop where
  h1 : t1 = (s0.call 2 a).2
  h2 : t2 = (t1.drop 2 0 0).2.2
  h3 : t3 = (t2.drop 2 0 1).2.2
  h4 : t4 = (t3.swept 0).2.2
  h5 : t5 = (t4.call 2 b).2
  h6 : t6 = (t5.drop 2 1 0).2.2
  h7 : t7 = (t6.drop 2 1 1).2.2
  h8 : t8 = (t7.swept 1).2.2
theorem two_law {os : List Int} (hos : 2 ≤ os.length) {a b : Ak} (ha : a.co = 0 ∧ a.gr = 0) (hb : b.co = 1 ∧ b.gr = 1) {s1 s2 s3 s4 s5 s6 s7 s8 t1 t2 t3 t4 t5 t6 t7 t8 : Ms} (M : TwM (newS os) a b s1 s2 s3 s4 s5 s6 s7 s8) (N : TwN (newS os) a b t1 t2 t3 t4 t5 t6 t7 t8) :
    (s1.call 2 b).1 = (t4.call 2 b).1 ∧ (s7.swept 0).1 = (t3.swept 0).1 ∧ (s7.swept 0).2.1 = (t3.swept 0).2.1 ∧ (s6.swept 1).1 = (t7.swept 1).1 ∧ (s6.swept 1).2.1 = (t7.swept 1).2.1 ∧ s8.es.length = os.length ∧ t8.es.length = os.length ∧ ∀ k : Nat, k < os.length → atE s8.es k = atE t8.es k ∧ (atE s8.es k).2 = false := by
  obtain ⟨m1, m2, m3, m4, m5, m6, m7, m8⟩ := M
  obtain ⟨n1, n2, n3, n4, n5, n6, n7, n8⟩ := N
  have hl : 2 ≤ (newS os).es.length := by simpa [newS] using hos
  have hlen : (newS os).es.length = os.length := by simp [newS]
  obtain ⟨e0, he0⟩ : ∃ e, e = atE (newS os).es 0 := ⟨_, rfl⟩
  obtain ⟨e1, he1⟩ : ∃ e, e = atE (newS os).es 1 := ⟨_, rfl⟩
  have hu0 : e0.2 = false := by rw [he0, lk_new os 0 (by omega)]; rfl
  have hu1 : e1.2 = false := by rw [he1, lk_new os 1 (by omega)]; rfl
  have S0 : Sv (newS os).es (newS os) (e0, none) (e1, none) := ⟨rfl, by rw [he0]; rfl, by rw [he1]; rfl, fun _ _ _ => rfl, fun _ _ _ => rfl⟩
  have c1 := S0.call0 hl a ha rfl (fun r hr => by cases hr)
  rw [← m1] at c1
  have c2 := c1.2.call1 hl b hb rfl (fun r hr => by rw [cV_co _ _ r hr, ha.1]; decide)
  rw [← m2] at c2
  have c3 := c2.2.drop0 hl 0
  rw [← m3] at c3
  have c4 := c3.drop1 hl 1
  rw [← m4] at c4
  have c5 := c4.drop0 hl 1
  rw [← m5] at c5
  have c6 := c5.drop1 hl 0
  rw [← m6] at c6
  have c7 := c6.swept1 hl
  rw [← m7] at c7
  have c8 := c7.2.2.swept0 hl
  rw [← m8] at c8
  have d1 := S0.call0 hl a ha rfl (fun r hr => by cases hr)
  rw [← n1] at d1
  have d2 := d1.2.drop0 hl 0
  rw [← n2] at d2
  have d3 := d2.drop0 hl 1
  rw [← n3] at d3
  have d4 := d3.swept0 hl
  rw [← n4] at d4
  obtain ⟨ra, rb⟩ := run_eq e0 a
  obtain ⟨ra1, rb1⟩ := run_eq e1 b
  have d5 := d4.2.2.call1 hl b hb rfl (fun r hr => by rw [(rb hu0).2.2] at hr; cases hr)
  rw [← n5] at d5
  have d6 := d5.2.drop1 hl 0
  rw [← n6] at d6
  have d7 := d6.drop1 hl 1
  rw [← n7] at d7
  have d8 := d7.swept1 hl
  rw [← n8] at d8
  refine ⟨c2.1.trans d5.1.symm, c8.1.trans d4.1.symm, c8.2.1.trans d4.2.1.symm, c7.1.trans ((congrArg Prod.fst ra1.symm).trans d8.1.symm), c7.2.1.trans ((congrArg Prod.snd ra1.symm).trans d8.2.1.symm), c8.2.2.len.trans hlen, d8.2.2.len.trans hlen, fun k hk => ?_⟩
  by_cases k0 : k = 0
  · subst k0
    have h1 := congrArg Prod.fst c8.2.2.h0
    have h2 := congrArg Prod.fst d8.2.2.h0
    dsimp only at h1 h2
    rw [h1, h2]
    exact ⟨rfl, (rb hu0).2.1⟩
  by_cases k1 : k = 1
  · subst k1
    have h1 := congrArg Prod.fst c8.2.2.h1
    have h2 := congrArg Prod.fst d8.2.2.h1
    dsimp only at h1 h2
    rw [h1, h2, (rb1 hu1).1]
    exact ⟨rfl, by rw [← (rb1 hu1).1]; exact (rb1 hu1).2.1⟩
  have h1 := c8.2.2.es k (by omega) (by omega)
  have h2 := d8.2.2.es k (by omega) (by omega)
  rw [h1, h2, lk_new os k (by omega)]
  exact ⟨rfl, rfl⟩

end Go.Proofs.Ytjggnhcdnfmmeaa
