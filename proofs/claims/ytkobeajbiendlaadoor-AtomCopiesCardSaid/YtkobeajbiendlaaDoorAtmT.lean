/- What this text holds: a machine's calls, whatever their arguments; what a step keeps. Conditions: the tables of limits and of ops hold what their initialisers lay. -/
import Derived.Test.YtkobeajbiendlaaDoorAtmI
import Derived.Test.YtkobeajbiendlaaDoorAtD
import Derived.Test.YtkobeajbiendlaaDoorAtO
namespace Go.Proofs.YtkobeajbiendlaaDoor
open Go.RowKit

/-- New, whatever it is handed. -/
theorem anew_any (c : Cfg) (A B C D : Option Addr) (l : List Pr) (ws os ds : List Int) (c1 c2 c3 c4 : Nat) (w : World) (hL : Lims w) (hO : Ops w) (hA : SlR w A l) (hB : SlI w B ws) (hC : SlI w C os) (hD : SlI w D ds) :
    Calls Tryd.prog 56 #[.agg #[.int .i64 c.co, .int .i64 c.gr, .int .i64 c.se, .int .i64 c.wa, .int .i64 c.de, .int .i64 c.en, .int .i64 c.ba], .slice A l.length c1, .slice B ws.length c2, .slice C os.length c3, .slice D ds.length c4] w fun e w' => NewPost c l ws os ds w e w' := by
  by_cases hc : c.ok
  · by_cases h1 : (l.length : Int) = c.co
    · by_cases h2 : (ws.length : Int) = c.co
      · by_cases h3 : (os.length : Int) = c.gr
        · by_cases h4 : (ds.length : Int) = 4 * c.gr
          · exact anew_go c A B C D l ws os ds c1 c2 c3 c4 w hL hO hc h1 h2 h3 h4 hA hB hC hD
          · have hN : newE11 c l ws os ds = 1 := by unfold newE11; rw [if_neg (by simpa using hc), if_pos (by omega)]
            refine (anew_len3 c A B C D l ws os ds c1 c2 c3 c4 w hL hc (by simpa using h1) (by simpa using h2) (by simpa using h3) (by rw [lin_ok hc]; simp; omega)).mono ?_
            rintro e w' ⟨rfl, hb⟩
            exact ⟨.inr ⟨by rw [hN]; decide, by rw [hN]⟩, hb⟩
        · have hN : newE11 c l ws os ds = 1 := by unfold newE11; rw [if_neg (by simpa using hc), if_pos (by omega)]
          refine (anew_len2 c A B C D l ws os ds c1 c2 c3 c4 w hL hc (by simpa using h1) (by simpa using h2) (by simpa using h3)).mono ?_
          rintro e w' ⟨rfl, hb⟩
          exact ⟨.inr ⟨by rw [hN]; decide, by rw [hN]⟩, hb⟩
      · have hN : newE11 c l ws os ds = 1 := by unfold newE11; rw [if_neg (by simpa using hc), if_pos (by omega)]
        refine (anew_len1 c A B C D l ws os ds c1 c2 c3 c4 w hL hc (by simpa using h1) (by simpa using h2)).mono ?_
        rintro e w' ⟨rfl, hb⟩
        exact ⟨.inr ⟨by rw [hN]; decide, by rw [hN]⟩, hb⟩
    · have hN : newE11 c l ws os ds = 1 := by unfold newE11; rw [if_neg (by simpa using hc), if_pos (by omega)]
      refine (anew_len0 c A B C D l ws os ds c1 c2 c3 c4 w hL hc (by simpa using h1)).mono ?_
      rintro e w' ⟨rfl, hb⟩
      exact ⟨.inr ⟨by rw [hN]; decide, by rw [hN]⟩, hb⟩
  · have hN : newE11 c l ws os ds = 10 := by unfold newE11; rw [if_pos hc]
    refine (anew_cfg c A B C D l ws os ds c1 c2 c3 c4 w hL hc).mono ?_
    rintro e w' ⟨rfl, hb⟩
    exact ⟨.inr ⟨by rw [hN]; decide, by rw [hN]⟩, hb⟩
theorem eleven_at {W : World} {B : Nat} {a b c d e f g h i j k : Value} {t : TypeId} {fr : Nat × Nat} (hh : W.heap[B]? = some (.cells #[a, b, c, d, e, f, g, h, i, j, k] t fr)) :
    W.cell? ⟨B, 0, none⟩ = some a ∧ W.cell? ⟨B, 1, none⟩ = some b ∧ W.cell? ⟨B, 2, none⟩ = some c ∧ W.cell? ⟨B, 3, none⟩ = some d ∧ W.cell? ⟨B, 4, none⟩ = some e ∧ W.cell? ⟨B, 5, none⟩ = some f ∧ W.cell? ⟨B, 6, none⟩ = some g ∧ W.cell? ⟨B, 7, none⟩ = some h ∧ W.cell? ⟨B, 8, none⟩ = some i ∧ W.cell? ⟨B, 9, none⟩ = some j ∧ W.cell? ⟨B, 10, none⟩ = some k := by
  simp [World.cell?, hh]
/-- What a machine's making answers, a little later. -/
def MadePost (c : Cfg) (l : List Pr) (ws os ds : List Int) (w : World) (e : Ending) (w' : World) : Prop :=
  ((newE11 c l ws os ds = 0 ∧ ∃ p lo hi, e = .returned (.tuple #[.pointer (some ⟨p, 0, none⟩), .int .i64 0]) ∧ Mc w' lo hi p (maNew c l ws os ds l.length) ∧ w.heap.size ≤ lo) ∨
    (newE11 c l ws os ds ≠ 0 ∧ e = .returned (.tuple #[.pointer none, .int .i64 (newE11 c l ws os ds)]))) ∧ Below w.heap.size w w'
set_option maxRecDepth 100000 in
theorem amade (c : Cfg) (A B C D : Option Addr) (l : List Pr) (ws os ds : List Int) (c1 c2 c3 c4 : Nat) (w : World) (hL : Lims w) (hO : Ops w) (hA : SlR w A l) (hB : SlI w B ws) (hC : SlI w C os) (hD : SlI w D ds) :
    Calls Tryd.prog 31 #[.agg #[.int .i64 c.co, .int .i64 c.gr, .int .i64 c.se, .int .i64 c.wa, .int .i64 c.de, .int .i64 c.en, .int .i64 c.ba, .slice A l.length c1, .slice B ws.length c2, .slice C os.length c3, .slice D ds.length c4]] w fun e w' => MadePost c l ws os ds w e w' := by
  have hb0 : Below w.heap.size w (w.alloc (.cells #[.int .i64 c.co, .int .i64 c.gr, .int .i64 c.se, .int .i64 c.wa, .int .i64 c.de, .int .i64 c.en, .int .i64 c.ba, .slice A l.length c1, .slice B ws.length c2, .slice C os.length c3, .slice D ds.length c4] 69)) := ext_alloc _ (Below.refl _ _)
  have HN := Lib.hid (anew_any c A B C D l ws os ds c1 c2 c3 c4 (w.alloc (.cells #[.int .i64 c.co, .int .i64 c.gr, .int .i64 c.se, .int .i64 c.wa, .int .i64 c.de, .int .i64 c.en, .int .i64 c.ba, .slice A l.length c1, .slice B ws.length c2, .slice C os.length c3, .slice D ds.length c4] 69)) (hL.ext hb0) (hO.ext hb0) (hA.ext hb0) (hB.ext hb0) (hC.ext hb0) (hD.ext hb0))
  have HB := Lib.hid hb0
  clear hL hO hA hB hC hD hb0
  go_enter Tryd.func31, Tryd.ntmps31
  go_wp2_with fail
  refine HN.out.mono ?_
  rintro e w1 ⟨⟨h0, p, rfl, hM⟩ | ⟨h0, rfl⟩, hb⟩
  · have HM := Lib.hid hM
    have H0 := Lib.hid h0
    have HB1 := Lib.hid hb
    clear hM h0 hb
    go_wp2_with fail
    go_ret2
    exact ⟨.inl ⟨H0.out, _, _, _, rfl, HM.out, by simp⟩, ext_trans HB.out HB1.out⟩
  · have H0 := Lib.hid h0
    have HB1 := Lib.hid hb
    clear h0 hb
    go_wp2_with fail
    go_ret2
    exact ⟨.inr ⟨H0.out, rfl⟩, ext_trans HB.out HB1.out⟩

/-- Each core's program may be, and it is over just where it ends. -/
def Ma.Good (M : Ma) : Prop := M.m.c.ok ∧ ∀ i, i < M.nc → GoodP (M.se i).ps ∧ (M.se i).ov = endB (M.se i).ps (M.se i).a
def Ma.stepA (M : Ma) (x : Int) (b : Bool) : Ev × Int × Ma :=
  if x < 0 ∨ (M.nc : Int) ≤ x then (Ev.zero, 10, M) else if (M.se x.toNat).ov then (Ev.zero, 20, M) else ((M.step x.toNat b).1, 0, (M.step x.toNat b).2)
def Ma.nextA (M : Ma) (x : Int) : Ins × Bool :=
  if x < 0 ∨ (M.nc : Int) ≤ x then (Ins.none, false) else if (M.se x.toNat).ov then (Ins.none, false) else (atI (M.se x.toNat).ps (M.se x.toNat).a.toNat, true)
def Ma.coreA (M : Ma) (x : Int) : Se × Int := if x < 0 ∨ (M.nc : Int) ≤ x then (Se.zero, 10) else (M.se x.toNat, 0)
def Ma.ownA (M : Ma) (x : Int) : Int × Int := if x < 0 ∨ (M.ng : Int) ≤ x then (0, 10) else (M.ow x.toNat, 0)
def Ma.getA (M : Ma) (x : Int) : Int × Int := if x < 0 ∨ 2 * (M.m.n : Int) ≤ x then (0, 10) else (M.m.wd x.toNat, 0)
abbrev Se.val (s : Se) : Value := .agg #[.int .i64 (s.r 0), .int .i64 (s.r 1), .int .i64 (s.r 2), .int .i64 (s.r 3), .int .i64 s.a, .int .i64 s.wo, .bool s.ov]
abbrev Ins.val (x : Ins) : Value := .agg #[.int .i64 x.op, .int .i64 x.a, .int .i64 x.b, .int .i64 x.c]

/-- What only one core's registers, world and place were turned in. -/
structure Lk (M X : Ma) (i : Nat) : Prop where
  c : X.m.c = M.m.c
  se : ∀ k, k ≠ i → X.se k = M.se k
  ps : (X.se i).ps = (M.se i).ps
theorem Lk.refl (M : Ma) (i : Nat) : Lk M M i := ⟨rfl, fun _ _ => rfl, rfl⟩
theorem Lk.trans {M X Y : Ma} {i : Nat} (h : Lk M X i) (k : Lk X Y i) : Lk M Y i := ⟨k.c.trans h.c, fun j hj => (k.se j hj).trans (h.se j hj), k.ps.trans h.ps⟩
theorem Lk.setReg (M : Ma) (i k : Nat) (v : Int) : Lk M (M.setReg i k v) i := ⟨rfl, fun j hj => updN_ne _ _ hj, by show (updN M.se i _ i).ps = _; rw [updN_same]⟩
theorem Lk.setWo (M : Ma) (i : Nat) (v : Int) : Lk M (M.setWo i v) i := ⟨rfl, fun j hj => updN_ne _ _ hj, by show (updN M.se i _ i).ps = _; rw [updN_same]⟩
theorem Lk.turn (M : Ma) (i : Nat) (a : Int) : Lk M (M.turn i a) i := ⟨rfl, fun j hj => updN_ne _ _ hj, by show (updN M.se i _ i).ps = _; rw [updN_same]⟩
theorem Lk.setOw (M : Ma) (i g : Nat) (v : Int) : Lk M (M.setOw g v) i := ⟨rfl, fun _ _ => rfl, rfl⟩
theorem Lk.mem (M : Ma) (i : Nat) {m : Mm} (h : m.c = M.m.c) : Lk M { M with m := m } i := ⟨h, fun _ _ => rfl, rfl⟩
theorem Lk.acc (M : Ma) (i : Nat) (x : Ins) : Lk M (M.acc i x).2.2 i := by
  unfold Ma.acc
  dsimp only
  split
  · split
    · exact Lk.setReg _ _ _ _
    · split
      · exact Lk.mem _ _ rfl
      · exact (Lk.mem M i (m := M.m.setWd _ _) rfl).trans (Lk.setReg _ _ _ _)
  · exact Lk.refl _ _
theorem Lk.call (M : Ma) (i : Nat) (ca wo gr tw : Int) (b : Bool) : Lk M (M.call ca wo gr tw b).2 i := by
  unfold Ma.call
  split
  · exact Lk.refl _ _
  · split
    · exact Lk.refl _ _
    · dsimp only
      split
      · exact Lk.refl _ _
      · dsimp only
        split
        · exact ⟨rfl, fun _ _ => rfl, rfl⟩
        · exact Lk.setOw _ _ _ _
/-- A step ends with a turn to a place. -/
theorem step_turn (M : Ma) (i : Nat) (b : Bool) : ∃ X a, (M.step i b).2 = X.turn i a ∧ Lk M X i := by
  unfold Ma.step
  dsimp only
  split
  · exact ⟨_, _, rfl, Lk.setReg _ _ _ _⟩
  split
  · exact ⟨_, _, rfl, Lk.setReg _ _ _ _⟩
  split
  · exact ⟨_, _, rfl, Lk.acc _ _ _⟩
  split
  · split
    · exact ⟨_, _, rfl, Lk.setWo _ _ _⟩
    · exact ⟨_, _, rfl, Lk.refl _ _⟩
  split
  · exact ⟨_, _, rfl, (Lk.call M i _ _ _ _ _).trans (Lk.setReg _ _ _ _)⟩
  split
  · exact ⟨_, _, rfl, Lk.refl _ _⟩
  split
  · exact ⟨_, _, rfl, Lk.refl _ _⟩
  · exact ⟨_, _, rfl, Lk.refl _ _⟩
theorem step_c (M : Ma) (i : Nat) (b : Bool) : (M.step i b).2.m.c = M.m.c := by
  obtain ⟨X, a, e, h⟩ := step_turn M i b
  rw [e]
  exact h.c
theorem Ma.Good.step {M : Ma} (h : M.Good) (i : Nat) (b : Bool) : (M.step i b).2.Good := by
  have hc := step_c M i b
  have hn : (M.step i b).2.nc = M.nc := by unfold Ma.nc; rw [hc]
  obtain ⟨X, a, e, hk⟩ := step_turn M i b
  refine ⟨by rw [hc]; exact h.1, fun k hk2 => ?_⟩
  rw [hn] at hk2
  rw [e]
  by_cases hki : k = i
  · subst hki
    show GoodP (updN X.se k _ k).ps ∧ (updN X.se k _ k).ov = endB (updN X.se k _ k).ps (updN X.se k _ k).a
    rw [updN_same]
    exact ⟨by show GoodP (X.se k).ps; rw [hk.ps]; exact (h.2 k hk2).1, rfl⟩
  · show GoodP (updN X.se i _ k).ps ∧ (updN X.se i _ k).ov = endB (updN X.se i _ k).ps (updN X.se i _ k).a
    rw [updN_ne _ _ hki, hk.se k hki]
    exact h.2 k hk2
theorem Ma.Good.stepA {M : Ma} (h : M.Good) (x : Int) (b : Bool) : (M.stepA x b).2.2.Good := by
  unfold Ma.stepA
  split
  · exact h
  · split
    · exact h
    · exact h.step _ _
theorem stepA_c (M : Ma) (x : Int) (b : Bool) : (M.stepA x b).2.2.m.c = M.m.c := by
  unfold Ma.stepA
  split
  · rfl
  · split
    · rfl
    · exact step_c _ _ _
theorem Ma.Good.new {c : Cfg} {l : List Pr} {ws os ds : List Int} (h : newE11 c l ws os ds = 0) : (maNew c l ws os ds l.length).Good := by
  unfold newE11 at h
  split at h
  · cases h
  rename_i hc
  split at h
  · cases h
  rename_i hl
  split at h
  · contradiction
  rename_i hb
  have hc := Classical.not_not.1 hc
  have hb := Classical.not_not.1 hb
  refine ⟨hc, fun i hi => ?_⟩
  have hi : i < c.co.toNat := hi
  have hil : i < l.length := by omega
  show GoodP (seNew l ws l.length i).ps ∧ (seNew l ws l.length i).ov = endB (seNew l ws l.length i).ps (seNew l ws l.length i).a
  unfold seNew
  rw [if_pos hil]
  exact ⟨good_of_chk (badP_all hb i hil), rfl⟩
section
variable {w : World} {lo hi p : Nat} {M : Ma}
theorem Mc.rg {lo' hi' : Nat} {w' : World} (h : Mc w lo hi p M) (hr : Rg lo' hi' w w') (hd : hi ≤ lo' ∨ hi' ≤ lo) : Mc w' lo hi p M :=
  h.keep (fun k h1 h2 => hr.block k (by have := h.sz; omega) (by omega)) hr.size
theorem nat_of {x : Int} {n : Nat} (h : ¬ (x < 0 ∨ (n : Int) ≤ x)) : ∃ i : Nat, x = i ∧ i < n := ⟨x.toNat, by omega, by omega⟩
theorem astep_all (h : Mc w lo hi p M) (hg : M.Good) (hL : Lims w) (x : Int) (b : Bool) :
    Calls Tryd.prog 34 #[.pointer (some ⟨p, 0, none⟩), .int .i64 x, .bool b] w fun e w' => e = .returned (.tuple #[(M.stepA x b).1.val, .int .i64 (M.stepA x b).2.1]) ∧ Mc w' lo hi p (M.stepA x b).2.2 ∧ Rg lo hi w w' := by
  obtain ⟨qs, qo, pm, lm, hm, cs, co, P, hk⟩ := h
  by_cases hx : x < 0 ∨ (M.nc : Int) ≤ x
  · have e0 : M.stepA x b = (Ev.zero, 10, M) := by unfold Ma.stepA; rw [if_pos hx]
    rw [e0]
    refine (astep_range hk x b hx).mono ?_
    rintro e w' ⟨rfl, hb⟩
    exact ⟨rfl, ⟨_, _, _, _, _, _, _, _, hk.ext hb⟩, Rg.of_below hb⟩
  obtain ⟨i, rfl, hi'⟩ := nat_of hx
  cases ho : (M.se i).ov
  · have e0 : M.stepA i b = ((M.step i b).1, 0, (M.step i b).2) := by unfold Ma.stepA; rw [if_neg hx, Int.toNat_natCast, ho]; rfl
    rw [e0]
    refine (astep_any hk hL i b hi' (hg.2 i hi').1 (by rw [← (hg.2 i hi').2]; exact ho) ho).mono ?_
    rintro e w' ⟨rfl, hm, hr⟩
    exact ⟨rfl, ⟨_, _, _, _, _, _, _, _, hm⟩, hr⟩
  · have e0 : M.stepA i b = (Ev.zero, 20, M) := by unfold Ma.stepA; rw [if_neg hx, Int.toNat_natCast, ho]; rfl
    rw [e0]
    refine (astep_over hk i b hi' ho).mono ?_
    rintro e w' ⟨rfl, hb⟩
    exact ⟨rfl, ⟨_, _, _, _, _, _, _, _, hk.ext hb⟩, Rg.of_below hb⟩
theorem anext_all (h : Mc w lo hi p M) (hg : M.Good) (x : Int) :
    Calls Tryd.prog 43 #[.pointer (some ⟨p, 0, none⟩), .int .i64 x] w fun e w' => e = .returned (.tuple #[(M.nextA x).1.val, .bool (M.nextA x).2]) ∧ Below w.heap.size w w' := by
  obtain ⟨qs, qo, pm, lm, hm, cs, co, P, hk⟩ := h
  by_cases hx : x < 0 ∨ (M.nc : Int) ≤ x
  · have e0 : M.nextA x = (Ins.none, false) := by unfold Ma.nextA; rw [if_pos hx]
    rw [e0]
    exact anext_range hk x hx
  obtain ⟨i, rfl, hi'⟩ := nat_of hx
  cases ho : (M.se i).ov
  · have e0 : M.nextA i = (atI (M.se i).ps (M.se i).a.toNat, true) := by unfold Ma.nextA; rw [if_neg hx, Int.toNat_natCast, ho]; rfl
    rw [e0]
    have he : endB (M.se i).ps (M.se i).a = false := by rw [← (hg.2 i hi').2]; exact ho
    obtain ⟨k, ha, hkl, _⟩ := endB_no he
    have := anext_ok hk i k _ _ _ _ hi' ha hkl (hg.2 i hi').1.1 ho rfl
    rw [ha, Int.toNat_natCast]
    exact this
  · have e0 : M.nextA i = (Ins.none, false) := by unfold Ma.nextA; rw [if_neg hx, Int.toNat_natCast, ho]; rfl
    rw [e0]
    exact anext_over hk i hi' ho
theorem acore_all (h : Mc w lo hi p M) (x : Int) :
    Calls Tryd.prog 33 #[.pointer (some ⟨p, 0, none⟩), .int .i64 x] w fun e w' => e = .returned (.tuple #[(M.coreA x).1.val, .int .i64 (M.coreA x).2]) ∧ Below w.heap.size w w' := by
  obtain ⟨qs, qo, pm, lm, hm, cs, co, P, hk⟩ := h
  by_cases hx : x < 0 ∨ (M.nc : Int) ≤ x
  · have e0 : M.coreA x = (Se.zero, 10) := by unfold Ma.coreA; rw [if_pos hx]
    rw [e0]
    exact acore_no hk x hx
  obtain ⟨i, rfl, hi'⟩ := nat_of hx
  have e0 : M.coreA i = (M.se i, 0) := by unfold Ma.coreA; rw [if_neg hx, Int.toNat_natCast]
  rw [e0]
  exact acore_ok hk i hi'
theorem aown_all (h : Mc w lo hi p M) (x : Int) :
    Calls Tryd.prog 40 #[.pointer (some ⟨p, 0, none⟩), .int .i64 x] w fun e w' => e = .returned (.tuple #[.int .i64 (M.ownA x).1, .int .i64 (M.ownA x).2]) ∧ Below w.heap.size w w' := by
  obtain ⟨qs, qo, pm, lm, hm, cs, co, P, hk⟩ := h
  by_cases hx : x < 0 ∨ (M.ng : Int) ≤ x
  · have e0 : M.ownA x = (0, 10) := by unfold Ma.ownA; rw [if_pos hx]
    rw [e0]
    exact aowner_no hk x hx
  obtain ⟨i, rfl, hi'⟩ := nat_of hx
  have e0 : M.ownA i = (M.ow i, 0) := by unfold Ma.ownA; rw [if_neg hx, Int.toNat_natCast]
  rw [e0]
  exact aowner_ok hk i hi'
theorem aget_all (h : Mc w lo hi p M) (hL : Lims w) (x : Int) :
    Calls Tryd.prog 41 #[.pointer (some ⟨p, 0, none⟩), .int .i64 x] w fun e w' => e = .returned (.tuple #[.int .i64 (M.getA x).1, .int .i64 (M.getA x).2]) ∧ Below w.heap.size w w' := by
  obtain ⟨qs, qo, pm, lm, hm, cs, co, P, hk⟩ := h
  by_cases hx : x < 0 ∨ 2 * (M.m.n : Int) ≤ x
  · have e0 : M.getA x = (0, 10) := by unfold Ma.getA; rw [if_pos hx]
    rw [e0]
    exact aget_no hk hL x hx
  obtain ⟨i, rfl, hi'⟩ := nat_of (n := 2 * M.m.n) (x := x) (by push_cast; exact hx)
  have e0 : M.getA i = (M.m.wd i, 0) := by unfold Ma.getA; rw [if_neg hx, Int.toNat_natCast]
  rw [e0]
  exact aget_ok hk hL i hi'
theorem acopy_all (h : Mc w lo hi p M) (hg : M.Good) :
    Calls Tryd.prog 39 #[.pointer (some ⟨p, 0, none⟩)] w fun e w' => ∃ p', e = .returned (.pointer (some ⟨p', 0, none⟩)) ∧ Mc w' w.heap.size w'.heap.size p' M ∧ Below w.heap.size w w' := by
  obtain ⟨qs, qo, pm, lm, hm, cs, co, P, hk⟩ := h
  exact acopy_ok hk (fun i hi => by have := (hg.2 i hi).1.1; omega)
end
end Go.Proofs.YtkobeajbiendlaaDoor
