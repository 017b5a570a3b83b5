/- What this text holds: the law BankApart, walked. Condition: the table of limits holds what its initialiser lays. -/
import Derived.Test.YtkfnjpmigifomaaDoorL02C
namespace Go.Proofs.YtkfnjpmigifomaaDoor
open Go.RowKit

/-- A slice of calls that reads as a list. -/
def Sl5 (w : World) (A : Option Addr) (l : List Op2) : Prop := 0 < l.length → ∃ b off, A = some ⟨b, off, none⟩ ∧ b < w.heap.size ∧ ∀ i, i < l.length →
  ∃ o : Op2, w.cell? ⟨b, off + i * 5, none⟩ = some (.int .i64 o.ask) ∧ w.cell? ⟨b, off + i * 5 + 1, none⟩ = some (.int .i64 o.at') ∧ w.cell? ⟨b, off + i * 5 + 2, none⟩ = some (.int .i64 o.v) ∧ w.cell? ⟨b, off + i * 5 + 3, none⟩ = some (.int .i64 o.a) ∧ w.cell? ⟨b, off + i * 5 + 4, none⟩ = some (.int .i64 o.b)
theorem Sl5.ext {w w' : World} {A : Option Addr} {l : List Op2} (h : Sl5 w A l) (hb : Below w.heap.size w w') : Sl5 w' A l := fun h0 => by
  obtain ⟨b, off, h1, h2, h3⟩ := h h0
  refine ⟨b, off, h1, Nat.lt_of_lt_of_le h2 hb.size, fun i hi => ?_⟩
  obtain ⟨o, c0, c1, c2, c3, c4⟩ := h3 i hi
  exact ⟨o, (hb.cell (p := ⟨b, _, none⟩) h2).trans c0, (hb.cell (p := ⟨b, _, none⟩) h2).trans c1, (hb.cell (p := ⟨b, _, none⟩) h2).trans c2, (hb.cell (p := ⟨b, _, none⟩) h2).trans c3, (hb.cell (p := ⟨b, _, none⟩) h2).trans c4⟩
theorem Bo.ok {w : World} {lo hi p lo' hi' p' : Nat} {m : Mm} (h : Bo w lo hi p lo' hi' p' m) : m.c.ok := h.b.ok
/-- Both, behind the first calls. -/
structure Lp (w wr : World) (lo hi p lo' hi' p' : Nat) (m : Mm) (c : Cfg) : Prop where
  bo : Bo wr lo hi p lo' hi' p' m
  cm : m.c = c
  ou : Ou (In2 lo hi lo' hi') w wr
/-- What a Write answered, and left. -/
def Wrote (m m' : Mm) (x a b er : Int) : Prop := (er = 0 ∧ 0 ≤ x ∧ x < m.n ∧ m' = m.put x.toNat a b) ∨ (er = 10 ∧ (x < 0 ∨ (m.n : Int) ≤ x) ∧ m' = m)
def WroteAny (w : World) (lo hi p : Nat) (m : Mm) (x a b : Int) (e : Ending) (w' : World) : Prop := ∃ (er : Int) (m' : Mm), e = .returned (.int .i64 er) ∧ Bm w' lo hi p m' ∧ Wrote m m' x a b er ∧ Rg lo hi w w'
theorem bwrite_any {w : World} {lo hi p : Nat} {m : Mm} (h : Bm w lo hi p m) (hL : Lims w) (x a b : Int) :
    Calls Tryd.prog 16 #[.pointer (some ⟨p, 0, none⟩), .int .i64 x, .agg #[.int .i64 a, .int .i64 b]] w (WroteAny w lo hi p m x a b) := by
  by_cases hx : x < 0 ∨ (m.n : Int) ≤ x
  · exact (bwrite_no h hL x a b hx).mono fun e w' ⟨h1, h2⟩ => ⟨10, m, h1, h.ext h2, .inr ⟨rfl, hx, rfl⟩, Rg.of_below h2⟩
  · obtain ⟨l, rfl⟩ : ∃ l : Nat, x = l := ⟨x.toNat, by omega⟩
    exact (bwrite_ok h hL l (by omega) a b).mono fun e w' ⟨h1, h2, h3⟩ => ⟨0, _, h1, h2, .inl ⟨rfl, by omega, by omega, by simp⟩, h3⟩
theorem Wrote.c {m m' : Mm} {x a b er : Int} (h : Wrote m m' x a b er) : m'.c = m.c := by
  rcases h with ⟨_, _, _, rfl⟩ | ⟨_, _, rfl⟩ <;> rfl
theorem put_at (m : Mm) (l k : Nat) (a b : Int) : (m.put l a b).wd (2 * k) = (if k = l then a else m.wd (2 * k)) ∧ (m.put l a b).wd (2 * k + 1) = (if k = l then b else m.wd (2 * k + 1)) := by
  simp only [Mm.put, updN]
  by_cases h : k = l
  · subst h
    simp
  · rw [if_neg (by omega), if_neg (by omega), if_neg h, if_neg (by omega), if_neg (by omega), if_neg h]
    exact ⟨rfl, rfl⟩
theorem Wrote.at {m m' : Mm} {x a b er : Int} (h : Wrote m m' x a b er) (k : Nat) (hk : k < m.n) :
    (((k : Int) = x → m'.wd (2 * k) = a ∧ m'.wd (2 * k + 1) = b) ∧ ((k : Int) ≠ x → m'.wd (2 * k) = m.wd (2 * k) ∧ m'.wd (2 * k + 1) = m.wd (2 * k + 1))) := by
  rcases h with ⟨_, h0, h1, rfl⟩ | ⟨_, h0, rfl⟩
  · obtain ⟨e1, e2⟩ := put_at m x.toNat k a b
    rw [e1, e2]
    refine ⟨fun e => ?_, fun e => ?_⟩
    · rw [if_pos (by omega), if_pos (by omega)]
      exact ⟨rfl, rfl⟩
    · rw [if_neg (by omega), if_neg (by omega)]
      exact ⟨rfl, rfl⟩
  · exact ⟨fun e => by omega, fun _ => ⟨rfl, rfl⟩⟩
/-- A memory, and its elder copy, behind some Reads. -/
structure Rd2 (w wr : World) (lo hi p lo2 hi2 q : Nat) (m0 m1 : Mm) : Prop where
  a : ∃ x : Mm, Bm wr lo hi p x ∧ x.c = m0.c ∧ x.wd = m1.wd
  b : ∃ y : Mm, Bm wr lo2 hi2 q y ∧ y.c = m0.c ∧ y.wd = m0.wd
  ou : Ou (In2 lo hi lo2 hi2) w wr
theorem Rd2.ext {w a b : World} {lo hi p lo2 hi2 q : Nat} {m0 m1 : Mm} (h : Rd2 w a lo hi p lo2 hi2 q m0 m1) (hb : Below a.heap.size a b) : Rd2 w b lo hi p lo2 hi2 q m0 m1 := by
  obtain ⟨⟨x, h1, h2, h3⟩, ⟨y, k1, k2, k3⟩, ho⟩ := h
  exact ⟨⟨x, h1.ext hb, h2, h3⟩, ⟨y, k1.ext hb, k2, k3⟩, ho.trans (Ou.of_below hb)⟩
theorem n_of_c {x m : Mm} (h : x.c = m.c) : x.n = m.n := by unfold Mm.n; rw [h]

theorem rd2_a {w wr : World} {lo hi p lo2 hi2 q : Nat} {m0 m1 : Mm} (h : Rd2 w wr lo hi p lo2 hi2 q m0 m1) (hd : hi ≤ lo2) (hL : Lims wr) (j : Nat) (hj : j < m0.n) :
    Calls Tryd.prog 18 #[.pointer (some ⟨p, 0, none⟩), .int .i64 j] wr fun e w' => e = .returned (.tuple #[.agg #[.int .i64 (m1.wd (2 * j)), .int .i64 (m1.wd (2 * j + 1))], .int .i64 0]) ∧ Rd2 w w' lo hi p lo2 hi2 q m0 m1 ∧ Ou (In2 lo hi lo2 hi2) wr w' := by
  obtain ⟨⟨x, h1, h2, h3⟩, ⟨y, k1, k2, k3⟩, ho⟩ := h
  have := bread_ok h1 hL j (by rw [n_of_c h2]; exact hj)
  rw [h3] at this
  refine this.mono fun e w' ⟨he, hm, hr⟩ => ?_
  have hou := Ou.of_rg (X := In2 lo hi lo2 hi2) hr (fun k a b => .inl ⟨a, b⟩)
  exact ⟨he, ⟨⟨_, hm, h2, h3⟩, ⟨y, k1.rg hr (.inr hd), k2, k3⟩, ho.trans hou⟩, hou⟩
theorem rd2_b {w wr : World} {lo hi p lo2 hi2 q : Nat} {m0 m1 : Mm} (h : Rd2 w wr lo hi p lo2 hi2 q m0 m1) (hd : hi ≤ lo2) (hL : Lims wr) (j : Nat) (hj : j < m0.n) :
    Calls Tryd.prog 18 #[.pointer (some ⟨q, 0, none⟩), .int .i64 j] wr fun e w' => e = .returned (.tuple #[.agg #[.int .i64 (m0.wd (2 * j)), .int .i64 (m0.wd (2 * j + 1))], .int .i64 0]) ∧ Rd2 w w' lo hi p lo2 hi2 q m0 m1 ∧ Ou (In2 lo hi lo2 hi2) wr w' := by
  obtain ⟨⟨x, h1, h2, h3⟩, ⟨y, k1, k2, k3⟩, ho⟩ := h
  have := bread_ok k1 hL j (by rw [n_of_c k2]; exact hj)
  rw [k3] at this
  refine this.mono fun e w' ⟨he, hm, hr⟩ => ?_
  have hou := Ou.of_rg (X := In2 lo hi lo2 hi2) hr (fun k a b => .inr ⟨a, b⟩)
  exact ⟨he, ⟨⟨x, h1.rg hr (.inl hd), h2, h3⟩, ⟨_, hm, k2, k3⟩, ho.trans hou⟩, hou⟩
theorem rd2_sz {w wr : World} {lo hi p lo2 hi2 q : Nat} {m0 m1 : Mm} (h : Rd2 w wr lo hi p lo2 hi2 q m0 m1) : hi ≤ wr.heap.size ∧ hi2 ≤ wr.heap.size := by
  obtain ⟨⟨x, h1, h2, h3⟩, ⟨y, k1, k2, k3⟩, ho⟩ := h
  exact ⟨h1.sz.1, k1.sz.1⟩

set_option maxRecDepth 100000 in
set_option maxHeartbeats 8000000 in
theorem bankapart (c : Cfg) (A : Option Addr) (l : List Op2) (cap : Nat) (o : Op2) (w : World) (h : Sl5 w A l) (hL : Lims w) :
    Calls Tryd.prog 3 #[.agg #[.int .i64 c.co, .int .i64 c.gr, .int .i64 c.se, .int .i64 c.wa, .int .i64 c.de, .int .i64 c.en, .int .i64 c.ba], .slice A l.length cap, o.val] w fun e w' => e = .returned (.bool true) ∧ Below w.heap.size w w' := by
  have H := Lib.hid h
  have HL := Lib.hid hL
  clear h hL
  obtain ⟨oask, oat, ov, oa, ob⟩ := o
  by_cases hc : c.ok
  case neg =>
    go_enter Tryd.func3, Tryd.ntmps3
    go_wp2_with fail
    refine (may01_no hc _).mono ?_
    rintro e w1 ⟨rfl, hb⟩
    have HB := Lib.hid (ext_trans (ext_alloc _ (ext_alloc _ (Below.refl _ _))) hb)
    clear hb
    go_wp2_with fail
    refine (awake02 _ (HL.out.ext HB.out)).mono ?_
    rintro e w2 ⟨rfl, hb⟩
    go_wp2_with fail
    go_ret
    exact ⟨rfl, ext_trans HB.out hb⟩
  by_cases h60 : 60 < l.length
  · go_enter Tryd.func3, Tryd.ntmps3
    go_wp2_with fail
    refine (may01_yes hc _).mono ?_
    rintro e w1 ⟨rfl, hb⟩
    have HB := Lib.hid (ext_trans (ext_alloc _ (ext_alloc _ (Below.refl _ _))) hb)
    clear hb
    go_wp2_with fail
    refine (few02_no _ _ _ _ h60).mono ?_
    rintro e w1' ⟨rfl, hw⟩
    rw [hw]
    clear hw
    go_wp2_with fail
    refine (awake02 _ (HL.out.ext HB.out)).mono ?_
    rintro e w2 ⟨rfl, hb⟩
    go_wp2_with fail
    go_ret
    exact ⟨rfl, ext_trans HB.out hb⟩
  have HC := Lib.hid hc
  have H60 := Lib.hid (show l.length ≤ 60 by omega)
  clear hc h60
  go_enter Tryd.func3, Tryd.ntmps3
  go_wp2_with fail
  refine (may01_yes HC.out _).mono ?_
  rintro e w1 ⟨rfl, hb⟩
  have HB1 := Lib.hid (ext_trans (ext_alloc _ (ext_alloc _ (Below.refl _ _))) hb)
  have hx := (hb.block w.heap.size (by simp; omega)).trans (alOld (alNew rfl))
  have hy := (hb.block (w.heap.size + 1) (by simp)).trans (alNew (by simp))
  have HX1 := Lib.hid hx
  have HY1 := Lib.hid hy
  obtain ⟨k0, k1, k2, k3, k4, k5, k6⟩ := cfg_at hx
  have xl := lt_of hx
  clear hb hx hy
  go_wp2_with fail
  refine (few02_yes _ _ _ _ H60.out).mono ?_
  rintro e w1' ⟨rfl, hw⟩
  rw [hw]
  clear hw
  go_wp2_with fail
  refine (bnew_ok c _ (HL.out.ext HB1.out) HC.out).mono ?_
  rintro e w2 ⟨p, rfl, hm, hb⟩
  have HM2 := Lib.hid hm
  have HB2 := Lib.hid (ext_trans HB1.out hb)
  have HX2 := Lib.hid ((hb.block _ (lt_of HX1.out)).trans HX1.out)
  have HY2 := Lib.hid ((hb.block _ (lt_of HY1.out)).trans HY1.out)
  have HS2 := Lib.hid (show w1.heap.size < w2.heap.size by have := HM2.out.sz; omega)
  clear hm hb k0 k1 k2 k3 k4 k5 k6 xl
  obtain ⟨k0, k1, k2, k3, k4, k5, k6⟩ := cfg_at HX2.out
  have xl := lt_of HX2.out
  go_wp2_with fail
  refine (rnew02 c _ HC.out).mono ?_
  rintro e w3 ⟨p', rfl, hm, hb⟩
  have HO3 := Lib.hid (show Lp w3 w3 (w1.heap.size + 1) w2.heap.size p w2.heap.size w3.heap.size p' (Mm.zero c) c from ⟨⟨HM2.out.ext hb, hm, .inl (Nat.le_refl _), by have := HM2.out.gl; have := HM2.out.sz; show _ < w2.heap.size; omega⟩, rfl, Ou.refl _ _⟩)
  have HB3 := Lib.hid (ext_trans HB2.out hb)
  have HX3 := Lib.hid ((hb.block _ (lt_of HX2.out)).trans HX2.out)
  have HY3 := Lib.hid ((hb.block _ (lt_of HY2.out)).trans HY2.out)
  have HS3 := Lib.hid (And.intro HB1.out.size (And.intro (lt_of HY1.out) (And.intro HS2.out hb.size)))
  clear hm hb k0 k1 k2 k3 k4 k5 k6 xl
  have HIN : Hid (∀ k, In2 (w1.heap.size + 1) w2.heap.size w2.heap.size w3.heap.size k → w1.heap.size < k) := Lib.hid (by intro k hk; have := HS3.out; unfold In2 at hk; omega)
  generalize hlo : w1.heap.size + 1 = lo at HO3 HIN
  have HLO := Lib.hid hlo
  clear hlo
  generalize Mm.zero c = m0 at HO3
  clear HM2
  go_wp2_with fail
  go_loopg [10] l.length (fun gk s10 wr => ∃ (k : Nat) (m : Mm), k + gk = l.length ∧ s10 = .int .i64 k ∧ Hid (Lp w3 wr lo w2.heap.size p w2.heap.size w3.heap.size p' m c))
  case atStart => exact ⟨0, m0, by omega, rfl, HO3⟩
  case round =>
    obtain ⟨k, m, hk, rfl, HP⟩ := hrel
    have HBr := Lib.hid (HP.out.ou.below HB3.out (fun k hk => by have := HIN.out k hk; have := HS3.out; omega))
    by_cases hlt : k < l.length
    · have ek : decide (k < l.length) = true := by simpa using hlt
      obtain ⟨b, off, rfl, hbl, hcs⟩ := (H.out.ext HBr.out) (by omega)
      obtain ⟨ok, y0, y1, y2, y3, y4⟩ := hcs k hlt
      have hk60 : (k : Int) ≤ 60 := by have := H60.out; omega
      clear hcs
      have HD := Lib.hid (does02 HP.out.bo (HL.out.ext HBr.out) ok)
      go_wp2_with fail
      refine HD.out.mono ?_
      rintro e w4 ⟨m', rfl, hbo, hcm, hou⟩
      have HP4 := Lib.hid (show Lp w3 w4 lo w2.heap.size p w2.heap.size w3.heap.size p' m' c from ⟨hbo, hcm.trans HP.out.cm, HP.out.ou.trans hou⟩)
      clear hbo hcm hou y0 y1 y2 y3 y4 hbl
      go_wp2_with fail
      go_roundg (l.length - (k + 1))
      case measure => omega
      case rel => exact ⟨k + 1, m', by omega, by go_num, HP4⟩
    · have ek : decide (k < l.length) = false := by simpa using hlt
      clear hlt hk
      go_wp2_with fail
      refine (bcopy_ok HP.out.bo.b).mono ?_
      rintro e w4 ⟨q, rfl, hq, hb⟩
      have HM4 := Lib.hid (HP.out.bo.b.ext hb)
      have HQ4 := Lib.hid hq
      have HB4 := Lib.hid (ext_trans HBr.out hb)
      have HX4 := Lib.hid ((hb.block _ (by have := HP.out.ou.size; have := lt_of HX3.out; omega)).trans ((HP.out.ou.block w.heap.size (lt_of HX3.out) (fun hi => by have := HIN.out _ hi; have := HS3.out; omega)).trans HX3.out))
      have HY4 := Lib.hid ((hb.block _ (by have := HP.out.ou.size; have := lt_of HY3.out; omega)).trans ((HP.out.ou.block (w.heap.size + 1) (lt_of HY3.out) (fun hi => by have := HIN.out _ hi; have := HS3.out; omega)).trans HY3.out))
      have HS4 := Lib.hid (And.intro HP.out.ou.size (And.intro HS3.out (And.intro hb.size HP.out.bo.b.sz)))
      have HCM := Lib.hid HP.out.cm
      clear hq hb
      obtain ⟨z0, z1, z2, z3, z4, zl⟩ := five_at HY4.out
      go_wp2_with fail
      refine (bwrite_any HM4.out (HL.out.ext HB4.out) oat oa ob).mono ?_
      rintro e w5 ⟨er, m1, rfl, hm, hwr, hrg⟩
      have HW5 := Lib.hid hwr
      have HR5 := Lib.hid (show Rd2 w5 w5 lo w2.heap.size p wr.heap.size w4.heap.size q m m1 from ⟨⟨m1, hm, hwr.c, rfl⟩, ⟨m, HQ4.out.rg hrg (.inr (by have := HS4.out; omega)), rfl, rfl⟩, Ou.refl _ _⟩)
      have HX5 := Lib.hid ((hrg.block _ (lt_of HX4.out) (.inl (by have := HLO.out; have := HS4.out; omega))).trans HX4.out)
      have HY5 := Lib.hid ((hrg.block _ (lt_of HY4.out) (.inl (by have := HLO.out; have := HS4.out; omega))).trans HY4.out)
      have HB5 := Lib.hid (hrg.below HB4.out (by have := HLO.out; have := HS4.out; omega))
      have HIN5 : Hid (∀ k, In2 lo w2.heap.size wr.heap.size w4.heap.size k → w1.heap.size < k) := Lib.hid (by intro k hk; have := HS4.out; have := HLO.out; unfold In2 at hk; omega)
      clear hm hwr hrg z0 z1 z2 z3 z4 zl HM4 HQ4
      have HLC : Hid (lin c = (m.n : Int)) := Lib.hid (by rw [← HCM.out]; exact (Mm.n_of m).symm)
      have HD2 : Hid (w2.heap.size ≤ wr.heap.size) := Lib.hid (by have := HS4.out; omega)
      have hn32 := m.n_le
      have HS5 := Lib.hid (show w.heap.size + 1 < w1.heap.size by have := HS4.out; omega)
      go_wp2_with fail
      generalize wr.heap.size = lo2 at *
      generalize w4.heap.size = hi2 at *
      generalize w2.heap.size = hi at *
      clear HX4 HY4 HB4 HS4 HP HBr HB3 HB2 HX3 HY3 HX2 HY2 HS3 HS2 HX1 HY1 HIN HO3
      go_loopg [13] m.n (fun gk s13 wx => ∃ j : Nat, j + gk = m.n ∧ s13 = .int .i64 j ∧ Hid (Rd2 w5 wx lo hi p lo2 hi2 q m m1))
      case atStart => exact ⟨0, by omega, rfl, HR5⟩
      case round =>
        obtain ⟨j, hj, rfl, HR⟩ := hrel
        have HBx := Lib.hid (HR.out.ou.below HB5.out (fun k hk => by have := HIN5.out k hk; have := HS5.out; omega))
        have HXx := Lib.hid ((HR.out.ou.block w.heap.size (lt_of HX5.out) (fun hi => by have := HIN5.out _ hi; have := HS5.out; omega)).trans HX5.out)
        have HYx := Lib.hid ((HR.out.ou.block (w.heap.size + 1) (lt_of HY5.out) (fun hi => by have := HIN5.out _ hi; have := HS5.out; omega)).trans HY5.out)
        obtain ⟨k0, k1, k2, k3, k4, k5, k6⟩ := cfg_at HXx.out
        have xl := lt_of HXx.out
        have HLN := lines_any c wr (HL.out.ext HBx.out)
        rw [HLC.out] at HLN
        have HLN := Lib.hid HLN
        by_cases hjn : j < m.n
        · have ek : decide (j < m.n) = true := by simpa using hjn
          have hj32 : (j : Int) ≤ 32 := by omega
          have HJ := Lib.hid hjn
          have HJG := Lib.hid hj
          clear hjn hj
          go_wp2_with fail
          refine HLN.out.mono ?_
          rintro e w6 ⟨rfl, hb⟩
          have HR6 := Lib.hid (HR.out.ext hb)
          have HB6 := Lib.hid (ext_trans HBx.out hb)
          have HY6 := Lib.hid ((hb.block _ (lt_of HYx.out)).trans HYx.out)
          clear hb k0 k1 k2 k3 k4 k5 k6 xl
          go_wp2_with fail
          refine (rd2_a HR6.out HD2.out (HL.out.ext HB6.out) j HJ.out).mono ?_
          rintro e w7 ⟨rfl, hrd, hou⟩
          have HR7 := Lib.hid hrd
          have HB7 := Lib.hid (hou.below HB6.out (fun k hk => by have := HIN5.out k hk; have := HS5.out; omega))
          have HY7 := Lib.hid ((hou.block (w.heap.size + 1) (lt_of HY6.out) (fun hi => by have := HIN5.out _ hi; have := HS5.out; omega)).trans HY6.out)
          clear hrd hou
          go_wp2_with fail
          refine (rd2_b (HR7.out.ext (ext_alloc _ (Below.refl _ _))) HD2.out (HL.out.ext (ext_trans HB7.out (ext_alloc _ (Below.refl _ _)))) j HJ.out).mono ?_
          rintro e w8 ⟨rfl, hrd, hou⟩
          have HR8 := Lib.hid hrd
          have HB8 := Lib.hid (hou.below (ext_trans HB7.out (ext_alloc _ (Below.refl _ _))) (fun k hk => by have := HIN5.out k hk; have := HS5.out; omega))
          have HY8 := Lib.hid ((hou.block (w.heap.size + 1) (by have := lt_of HY7.out; simp; omega) (fun hi => by have := HIN5.out _ hi; have := HS5.out; omega)).trans (alOld HY7.out))
          have HP8 := Lib.hid ((hou.block w7.heap.size (by simp) (fun hi => by have := rd2_sz HR7.out; unfold In2 at hi; omega)).trans (alNew rfl))
          clear hrd hou
          obtain ⟨z0, z1, z2, z3, z4, zl⟩ := five_at HY8.out
          obtain ⟨x0, x1, _, _, xl⟩ := pair_at HP8.out
          obtain ⟨hwy, hwn⟩ := HW5.out.at j HJ.out
          by_cases hjo : (j : Int) = oat
          · obtain ⟨g1, g2⟩ := hwy hjo
            have ne : ∀ wx, (binOp .neq 26 (.agg #[.int .i64 (m1.wd (2 * j)), .int .i64 (m1.wd (2 * j + 1))]) (.agg #[.int .i64 oa, .int .i64 ob])).run Tryd.prog wx = .ok (.bool false) wx := fun wx => by rw [neqLine, g1, g2]; simp
            have e1 : ((j : Int) == oat) = true := by simpa using hjo
            have e2 : ((j : Int) != oat) = false := by simpa using hjo
            clear hwy hwn hjo g1 g2
            go_wp2_with fail
            go_roundg (m.n - (j + 1))
            case measure => have := HJ.out; have := HJG.out; omega
            case rel => exact ⟨j + 1, by have := HJ.out; omega, by go_num, Lib.hid (HR8.out.ext (ext_alloc _ (Below.refl _ _)))⟩
          · obtain ⟨g1, g2⟩ := hwn hjo
            have ne : ∀ wx, (binOp .neq 26 (.agg #[.int .i64 (m1.wd (2 * j)), .int .i64 (m1.wd (2 * j + 1))]) (.agg #[.int .i64 (m.wd (2 * j)), .int .i64 (m.wd (2 * j + 1))])).run Tryd.prog wx = .ok (.bool false) wx := fun wx => by rw [neqLine, g1, g2]; simp
            have e1 : ((j : Int) == oat) = false := by simpa using hjo
            have e2 : ((j : Int) != oat) = true := by simpa using hjo
            clear hwy hwn hjo g1 g2
            go_wp2_with fail
            go_roundg (m.n - (j + 1))
            case measure => have := HJ.out; have := HJG.out; omega
            case rel => exact ⟨j + 1, by have := HJ.out; omega, by go_num, Lib.hid (HR8.out.ext (ext_alloc _ (Below.refl _ _)))⟩
        · have ek : decide (j < m.n) = false := by simpa using hjn
          clear hjn hj
          go_wp2_with fail
          refine HLN.out.mono ?_
          rintro e w6 ⟨rfl, hb⟩
          have HR6 := Lib.hid (HR.out.ext hb)
          have HB6 := Lib.hid (ext_trans HBx.out hb)
          have HX6 := Lib.hid ((hb.block _ (lt_of HXx.out)).trans HXx.out)
          have HY6 := Lib.hid ((hb.block _ (lt_of HYx.out)).trans HYx.out)
          clear hb k0 k1 k2 k3 k4 k5 k6 xl
          obtain ⟨k0, k1, k2, k3, k4, k5, k6⟩ := cfg_at HX6.out
          have xl := lt_of HX6.out
          obtain ⟨z0, z1, z2, z3, z4, zl⟩ := five_at HY6.out
          have HLN2 := Lib.hid (fun (W : World) (hb : Below w6.heap.size w6 W) => show Calls Tryd.prog 17 #[.agg #[.int .i64 c.co, .int .i64 c.gr, .int .i64 c.se, .int .i64 c.wa, .int .i64 c.de, .int .i64 c.en, .int .i64 c.ba]] W (fun e w' => e = .returned (.int .i64 (m.n : Int)) ∧ Below W.heap.size W w') by have := lines_any c W (HL.out.ext (ext_trans HB6.out hb)); rw [HLC.out] at this; exact this)
          have HAW := Lib.hid (fun (W : World) (hb : Below w6.heap.size w6 W) => awake02 W (HL.out.ext (ext_trans HB6.out hb)))
          rcases HW5.out with ⟨rfl, h1, h2, hmm⟩ | ⟨rfl, h1, hmm⟩
          · have ea : decide (oat ≥ 0) = true := by simpa using h1
            have eb : decide (oat < (m.n : Int)) = true := by simpa using h2
            clear hmm h1 h2
            go_wp2_with fail
            refine region_past (by kernel_rfl) (by kernel_rfl) ?_; (repeat (go_big_quiet_step ((first | (go_at_call 17; exact calls_past (HLN2.out _ (Past.below _))) | (go_at_call 11; exact calls_past (HAW.out _ (Past.below _))))))); refine wpQuiet_nil ?_; rintro _ ⟨p, rfl⟩
            go_wp2_with fail
            go_ret
            exact ⟨rfl, ext_past p (ext_trans HB6.out (Below.refl _ _))⟩
          · obtain ⟨⟨x, a1, a2, a3⟩, ⟨y, b1, b2, b3⟩, _⟩ := HR6.out
            have hal : alike x.wd y.wd x.n = true := by rw [a3, b3, hmm]; exact alike_iff.2 fun k _ => rfl
            have HSM := Lib.hid (fun (W : World) (hb : Below w6.heap.size w6 W) => show Calls Tryd.prog 19 #[.pointer (some ⟨p, 0, none⟩), .pointer (some ⟨q, 0, none⟩)] W (fun e w' => e = .returned (.bool true) ∧ Below W.heap.size W w') by have := bsame_ok (a1.ext hb) (b1.ext hb) (n_of_c (b2.trans a2.symm)) (HL.out.ext (ext_trans HB6.out hb)); rw [hal] at this; exact this)
            clear hal a1 a2 a3 b1 b2 b3 hmm
            by_cases hneg : oat < 0
            · have ea : decide (oat ≥ 0) = false := by simpa using hneg
              clear h1 hneg
              go_wp2_with fail
              refine region_past (by kernel_rfl) (by kernel_rfl) ?_; (repeat (go_big_quiet_step ((first | (go_at_call 17; exact calls_past (HLN2.out _ (Past.below _))) | (go_at_call 19; exact calls_past (HSM.out _ (Past.below _))) | (go_at_call 11; exact calls_past (HAW.out _ (Past.below _))))))); refine wpQuiet_nil ?_; rintro _ ⟨p, rfl⟩
              go_wp2_with fail
              go_ret
              exact ⟨rfl, ext_past p (ext_trans HB6.out (Below.refl _ _))⟩
            · have ea : decide (oat ≥ 0) = true := by simp; omega
              have eb : decide (oat < (m.n : Int)) = false := by simp; omega
              clear h1 hneg
              go_wp2_with fail
              refine region_past (by kernel_rfl) (by kernel_rfl) ?_; (repeat (go_big_quiet_step ((first | (go_at_call 17; exact calls_past (HLN2.out _ (Past.below _))) | (go_at_call 19; exact calls_past (HSM.out _ (Past.below _))) | (go_at_call 11; exact calls_past (HAW.out _ (Past.below _))))))); refine wpQuiet_nil ?_; rintro _ ⟨p, rfl⟩
              go_wp2_with fail
              go_ret
              exact ⟨rfl, ext_past p (ext_trans HB6.out (Below.refl _ _))⟩

end Go.Proofs.YtkfnjpmigifomaaDoor
