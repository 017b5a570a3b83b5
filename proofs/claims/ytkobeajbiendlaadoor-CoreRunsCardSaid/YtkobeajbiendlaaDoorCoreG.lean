/- What this text holds: what a core does by itself, again and again; a twin of it. No condition. -/
import Derived.Test.YtkobeajbiendlaaDoorCoreF
namespace Go.Proofs.YtkobeajbiendlaaDoor
open Go.RowKit

/-- An event. -/
structure Ev where
  co : Int
  a : Int
  op : Int
  wo : Int
  wd : Int
  va : Int
  cd : Int
def Ev.zero : Ev := ⟨0, 0, 0, 0, 0, 0, 0⟩
def Ev.cells (e : Ev) : List Value := [.int .i64 e.co, .int .i64 e.a, .int .i64 e.op, .int .i64 e.wo, .int .i64 e.wd, .int .i64 e.va, .int .i64 e.cd]
def atV (l : List Ev) (i : Nat) : Ev := l[i]?.getD Ev.zero
def flatV7 (l : List Ev) : List Value := l.flatMap Ev.cells
theorem flatV7_len (l : List Ev) : (flatV7 l).length = l.length * 7 := by
  induction l with
  | nil => rfl
  | cons x xs ih => simp [flatV7, Ev.cells] at ih ⊢; omega
theorem flatV7_app (l m : List Ev) : flatV7 (l ++ m) = flatV7 l ++ flatV7 m := by simp [flatV7]
theorem flatV7_at (l : List Ev) : ∀ i j, i < l.length → j < 7 → (flatV7 l)[i * 7 + j]? = (atV l i).cells[j]? := by
  induction l with
  | nil => intro i j hi; simp at hi
  | cons x xs ih =>
    intro i j hi hj
    cases i with
    | zero =>
      have : j = 0 ∨ j = 1 ∨ j = 2 ∨ j = 3 ∨ j = 4 ∨ j = 5 ∨ j = 6 := by omega
      rcases this with rfl | rfl | rfl | rfl | rfl | rfl | rfl <;> rfl
    | succ i =>
      have h1 := ih i j (by simpa using hi) hj
      have e : (i + 1) * 7 + j = 7 + (i * 7 + j) := by omega
      rw [e]
      have e2 : flatV7 (x :: xs) = x.cells ++ flatV7 xs := by simp [flatV7]
      rw [e2, List.getElem?_append_right (by simp [Ev.cells])]
      have e3 : 7 + (i * 7 + j) - x.cells.length = i * 7 + j := by simp [Ev.cells]
      rw [e3, h1]
      simp [atV]
theorem flatV7_one (l : List Ev) : ∀ u ∈ flatV7 l, u.oneCell' = true := by
  intro u hu
  simp only [flatV7, List.mem_flatMap] at hu
  obtain ⟨x, _, hx⟩ := hu
  simp [Ev.cells] at hx
  rcases hx with rfl | rfl | rfl | rfl | rfl | rfl | rfl <;> rfl
theorem info_ev : (Tryd.prog.info? 42).map (fun i => (i.zero, i.size, i.bytes)) = some (some (.agg #[.int .i64 0, .int .i64 0, .int .i64 0, .int .i64 0, .int .i64 0, .int .i64 0, .int .i64 0]), 7, 56) := by kernel_rfl

/-- What a core does by itself. -/
def locOp (o : Int) : Bool := o == 1 || o == 2 || o == 6 || o == 7 || o == 9 || o == 10
def isLoc (s : CoS) : Bool := !endB s.ps s.a && locOp (atI s.ps s.a.toNat).op
def locVal (s : CoS) (x : Ins) : Int := if x.op = 1 then x.b else if x.op = 2 then wrap64 (s.r x.b.toNat + s.r x.c.toNat) else if x.op = 7 then x.a else if x.op = 9 then x.a else if x.op = 10 then s.r x.a.toNat else 0
def locE (s : CoS) : Ev := ⟨s.no, s.a, (atI s.ps s.a.toNat).op, s.wo, 0, locVal s (atI s.ps s.a.toNat), if (atI s.ps s.a.toNat).op = 7 ∧ s.wo ≠ 0 then 18 else 0⟩
def locR (s : CoS) (x : Ins) : Nat → Int := if x.op = 1 ∨ x.op = 2 then upd s.r x.a.toNat (locVal s x) else s.r
def locN (s : CoS) (x : Ins) : Int := if x.op = 9 then x.a else if x.op = 10 ∧ s.r x.a.toNat = 0 then x.b else s.a + 1
def locS (s : CoS) : CoS := { s with r := locR s (atI s.ps s.a.toNat), a := locN s (atI s.ps s.a.toNat), wo := if (atI s.ps s.a.toNat).op = 7 ∧ s.wo = 0 then (atI s.ps s.a.toNat).a else s.wo, ov := endB s.ps (locN s (atI s.ps s.a.toNat)) }
/-- A program that may be. -/
def GoodP (l : List Ins) : Prop := l.length ≤ 32 ∧ ∀ i, i < l.length → mayV (atI l i) l.length = 0
theorem chkV_all {l : List Ins} {m : Int} : ∀ {k : Nat}, (chkV l m k).2 = 0 → ∀ i, i < k → mayV (atI l i) m = 0
  | 0, _, i, hi => by omega
  | k + 1, h, i, hi => by
    unfold chkV at h
    split at h
    · rename_i h0
      split at h
      · rename_i h1
        by_cases hik : i = k
        · rw [hik]; exact h1
        · exact chkV_all h0 i (by omega)
      · rename_i h1
        exact absurd h h1
    · rename_i h0
      exact absurd h h0
theorem good_of_chk {l : List Ins} (h : (chkP l).2 = 0) : GoodP l := by
  have hl := chk_len h
  refine ⟨hl, ?_⟩
  unfold chkP at h
  rw [if_neg (by omega)] at h
  exact chkV_all h
theorem good_new' {no wo : Int} {l : List Ins} (h : newE no wo l = 0) : GoodP l := by
  unfold newE at h
  split at h
  · cases h
  · exact good_of_chk h

theorem may_parts {x : Ins} {m : Int} (h : mayV x m = 0) : opB x.op = true ∧ fitB (numb x.op.toNat 0) x.a m = true ∧ fitB (numb x.op.toNat 1) x.b m = true ∧ fitB (numb x.op.toNat 2) x.c m = true := by
  unfold mayV at h
  split at h
  · rename_i h0
    split at h
    · rename_i h1
      simp [numsI] at h1
      exact ⟨h0, h1.1, h1.2.1, h1.2.2⟩
    · cases h
  · cases h
theorem fit_reg {v m : Int} (h : fitB 1 v m = true) : ∃ i : Nat, v = i ∧ i < 4 := by
  simp [fitB] at h
  exact ⟨v.toNat, by omega, by omega⟩

/-- An instruction of a good program, by its op. -/
theorem good_at {l : List Ins} (h : GoodP l) {k : Nat} (hk : k < l.length) : ∃ x : Ins, atI l k = x ∧ 1 ≤ x.op ∧ x.op < 12 ∧ (x.op = 1 ∨ x.op = 10 → ∃ i : Nat, x.a = i ∧ i < 4) ∧ (x.op = 2 → ∃ i j n : Nat, x.a = i ∧ x.b = j ∧ x.c = n ∧ i < 4 ∧ j < 4 ∧ n < 4) ∧ (x.op = 3 ∨ x.op = 4 ∨ x.op = 5 → ∃ i j : Nat, x.a = i ∧ x.b = j ∧ i < 4 ∧ j < 4) ∧ (x.op = 8 → ∃ j n : Nat, x.b = j ∧ x.c = n ∧ j < 4 ∧ n < 4 ∧ 1 ≤ x.a ∧ x.a ≤ 4) ∧ (x.op = 9 → 0 ≤ x.a ∧ x.a ≤ l.length) ∧ (x.op = 10 → 0 ≤ x.b ∧ x.b ≤ l.length) ∧ (x.op = 7 → 1 ≤ x.a ∧ x.a ≤ 3) := by
  obtain ⟨p0, p1, p2, p3⟩ := may_parts (h.2 k hk)
  refine ⟨_, rfl, ?_⟩
  generalize atI l k = x at p0 p1 p2 p3
  obtain ⟨xo, xa, xb, xc⟩ := x
  dsimp only at *
  have hb : 1 ≤ xo ∧ xo < 12 := by simpa [opB] using p0
  refine ⟨hb.1, hb.2, fun e => ?_, fun e => ?_, fun e => ?_, fun e => ?_, fun e => ?_, fun e => ?_, fun e => ?_⟩
  · rcases e with rfl | rfl
    · exact fit_reg p1
    · exact fit_reg p1
  · subst e
    obtain ⟨i, hi, i4⟩ := fit_reg p1
    obtain ⟨j, hj, j4⟩ := fit_reg p2
    obtain ⟨n, hn, n4⟩ := fit_reg p3
    exact ⟨i, j, n, hi, hj, hn, i4, j4, n4⟩
  · rcases e with rfl | rfl | rfl
    · obtain ⟨i, hi, i4⟩ := fit_reg p1
      obtain ⟨j, hj, j4⟩ := fit_reg p2
      exact ⟨i, j, hi, hj, i4, j4⟩
    · obtain ⟨i, hi, i4⟩ := fit_reg p1
      obtain ⟨j, hj, j4⟩ := fit_reg p2
      exact ⟨i, j, hi, hj, i4, j4⟩
    · obtain ⟨i, hi, i4⟩ := fit_reg p1
      obtain ⟨j, hj, j4⟩ := fit_reg p2
      exact ⟨i, j, hi, hj, i4, j4⟩
  · subst e
    obtain ⟨j, hj, j4⟩ := fit_reg p2
    obtain ⟨n, hn, n4⟩ := fit_reg p3
    have h4 : fitB 4 xa l.length = true := p1
    simp [fitB] at h4
    exact ⟨j, n, hj, hn, j4, n4, h4.1, h4.2⟩
  · subst e
    have h4 : fitB 5 xa l.length = true := p1
    simpa [fitB] using h4
  · subst e
    have h4 : fitB 5 xb l.length = true := p2
    simpa [fitB] using h4
  · subst e
    have h4 : fitB 3 xa l.length = true := p1
    simpa [fitB] using h4

theorem klocal_yes (p : Nat) (v : Value) (s : CoS) (w : World) (h : Kc w p v s) (hg : GoodP s.ps) (hl : isLoc s = true) :
    Calls Tryd.prog 19 #[.pointer (some ⟨p, 0, none⟩)] w fun e w' => e = .returned (.tuple #[.agg (locE s).cells.toArray, .bool true]) ∧ Kc w' p v (locS s) ∧ w.grownBy w' (some p) := by
  unfold isLoc at hl
  simp only [Bool.and_eq_true, Bool.not_eq_true'] at hl
  obtain ⟨he, ho⟩ := hl
  obtain ⟨k, hk, hkl, _⟩ := endB_no he
  have ek : s.a.toNat = k := by omega
  obtain ⟨x, hx, x1, x12, g1, g2, _, _, g9, g10, g7⟩ := good_at hg hkl
  have hk2 : k < 1000 := by have := hg.1; omega
  have hx' : atI s.ps s.a.toNat = x := by rw [ek]; exact hx
  obtain ⟨xo, xa, xb, xc⟩ := x
  dsimp only at *
  have key : ∀ (V : Value) (s2 : CoS), (Calls Tryd.prog 19 #[.pointer (some ⟨p, 0, none⟩)] w fun e w' => e = .returned (.tuple #[V, .bool true]) ∧ Kc w' p v s2 ∧ w.grownBy w' (some p)) → V = .agg (locE s).cells.toArray → s2 = locS s →
      Calls Tryd.prog 19 #[.pointer (some ⟨p, 0, none⟩)] w fun e w' => e = .returned (.tuple #[.agg (locE s).cells.toArray, .bool true]) ∧ Kc w' p v (locS s) ∧ w.grownBy w' (some p) := fun V s2 hc h1 h2 => by
    subst h1
    subst h2
    exact hc
  rw [hx'] at ho
  dsimp only [locOp] at ho
  simp only [Bool.or_eq_true, beq_iff_eq] at ho
  rcases ho with ((((rfl | rfl) | rfl) | rfl) | rfl) | rfl
  · obtain ⟨i, rfl, hi⟩ := g1 (.inl rfl)
    refine key _ _ (klocal_set p v s k i xb xc w h he hk hk2 hx' hi) ?_ ?_
    · simp [locE, Ev.cells, hx, locVal, hk]
    · simp [locS, locR, locN, hx, locVal, hk]
  · obtain ⟨i, j, n, rfl, rfl, rfl, hi, hj, hn⟩ := g2 rfl
    refine key _ _ (klocal_add p v s k i j n w h he hk hk2 hx' hi hj hn) ?_ ?_
    · simp [locE, Ev.cells, hx, locVal, hk]
    · simp [locS, locR, locN, hx, locVal, hk]
  · refine key _ _ (klocal_fence p v s k xa xb xc w h he hk hk2 hx') ?_ ?_
    · simp [locE, Ev.cells, hx, locVal, hk]
    · simp [locS, locR, locN, hx, hk]
  · by_cases hw : s.wo = 0
    · refine key _ _ (klocal_world0 p v s k xa xb xc w h he hk hk2 hx' hw) ?_ ?_
      · simp [locE, Ev.cells, hx, locVal, hk, hw]
      · simp [locS, locR, locN, hx, hk, hw]
    · refine key _ _ (klocal_world1 p v s k xa xb xc w h he hk hk2 hx' hw) ?_ ?_
      · simp [locE, Ev.cells, hx, locVal, hk, hw]
      · simp [locS, locR, locN, hx, hk, hw]
  · refine key _ _ (klocal_jump p v s k xa xb xc w h he hk hk2 hx') ?_ ?_
    · simp [locE, Ev.cells, hx, locVal, hk]
    · simp [locS, locR, locN, hx, ek]
  · obtain ⟨i, rfl, hi⟩ := g1 (.inr rfl)
    by_cases hz : s.r i = 0
    · refine key _ _ (klocal_zero0 p v s k i xb xc w h he hk hk2 hx' hi hz) ?_ ?_
      · simp [locE, Ev.cells, hx, locVal, hk, hz]
      · simp [locS, locR, locN, hx, ek, hz]
    · refine key _ _ (klocal_zero1 p v s k i xb xc w h he hk hk2 hx' hi hz) ?_ ?_
      · simp [locE, Ev.cells, hx, locVal, hk]
      · simp [locS, locR, locN, hx, hk, hz]

theorem ask_op {o : Int} (h1 : 1 ≤ o) (h2 : o < 12) (h3 : o ≠ 11) (h4 : locOp o = false) : o = 3 ∨ o = 4 ∨ o = 5 ∨ o = 8 := by
  simp [locOp] at h4
  omega
theorem klocal_not (p : Nat) (v : Value) (s : CoS) (w : World) (h : Kc w p v s) (hg : GoodP s.ps) (hl : isLoc s = false) :
    Calls Tryd.prog 19 #[.pointer (some ⟨p, 0, none⟩)] w fun e w' => e = .returned (.tuple #[.agg #[.int .i64 0, .int .i64 0, .int .i64 0, .int .i64 0, .int .i64 0, .int .i64 0, .int .i64 0], .bool false]) ∧ Below w.heap.size w w' := by
  cases he : endB s.ps s.a
  · obtain ⟨k, hk, hkl, h11⟩ := endB_no he
    have ek : s.a.toNat = k := by omega
    obtain ⟨x, hx, x1, x12, _⟩ := good_at hg hkl
    have hk2 : k < 1000 := by have := hg.1; omega
    have hx' : atI s.ps s.a.toNat = x := by rw [ek]; exact hx
    unfold isLoc at hl
    rw [he, hx'] at hl
    rw [hx] at h11
    obtain ⟨xo, xa, xb, xc⟩ := x
    dsimp only at *
    rcases ask_op x1 x12 h11 (by simpa using hl) with rfl | rfl | rfl | rfl
    · exact klocal_no3 p v s k xa xb xc w h he hk hk2 hx'
    · exact klocal_no4 p v s k xa xb xc w h he hk hk2 hx'
    · exact klocal_no5 p v s k xa xb xc w h he hk hk2 hx'
    · exact klocal_no8 p v s k xa xb xc w h he hk hk2 hx'
  · exact klocal_end p v s w h he

end Go.Proofs.YtkobeajbiendlaaDoor
