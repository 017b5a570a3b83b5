/- What this text holds: asking a checker, beginning a walk. No condition. -/
import Derived.Test.YtjggnhcdnfmmeaaChk
import Derived.Test.YtjggnhcdnfmmeaaMay
import Derived.Test.YtjggnhcdnfmmeaaTblM
namespace Go.Proofs.Ytjggnhcdnfmmeaa
open Go.RowKit

theorem cask_nil (x g : Int) (w : World) : Calls Try.prog 16 #[.pointer none, .int .i64 x, .int .i64 g] w fun e w' => e = .returned (.tuple #[.int .i64 0, .int .i64 2]) ∧ Below w.heap.size w w' := by
  go_enter Try.func16, Try.ntmps16
  go_wp2
  go_ret2
  exact ⟨rfl, Below.refl _ _⟩

theorem cask_no (p : Nat) (v : Value) (s : CkS) (x g : Int) (w : World) (h : Ck w p v s) (hx : g < 0 ∨ s.gr ≤ g ∨ x < 0 ∨ 3 < x) : Calls Try.prog 16 #[.pointer (some ⟨p, 0, none⟩), .int .i64 x, .int .i64 g] w fun e w' => e = .returned (.tuple #[.int .i64 0, .int .i64 10]) ∧ Below w.heap.size w w' := by
  have c5 := h.cells.2.2.2.2.2.1
  have hl := h.lt
  clear h
  obtain ⟨sk, sg, sa, ss, se, sr, ks⟩ := s
  dsimp only at *
  by_cases h1 : g < 0
  · clear hx
    go_enter Try.func16, Try.ntmps16
    go_wp2
    go_ret2
    exact ⟨rfl, Below.refl _ _⟩
  have e1 : decide (g < 0) = false := by simp; omega
  by_cases h2 : sr ≤ g
  · have e2 : decide (g ≥ sr) = true := by simp; omega
    clear hx
    go_enter Try.func16, Try.ntmps16
    go_wp2
    go_ret2
    exact ⟨rfl, Below.refl _ _⟩
  have e2 : decide (g ≥ sr) = false := by simp; omega
  by_cases h3 : x < 0
  · clear hx
    go_enter Try.func16, Try.ntmps16
    go_wp2
    go_ret2
    exact ⟨rfl, Below.refl _ _⟩
  have e3 : decide (x < 0) = false := by simp; omega
  have e4 : decide (x > 3) = true := by simp; omega
  clear hx
  go_enter Try.func16, Try.ntmps16
  go_wp2
  go_ret2
  exact ⟨rfl, Below.refl _ _⟩

/-- What a checker answers: 1 it may, 2 it may not, 3 it is not known. -/
def askV (ks : List Fa) (x g r : Int) : Prop := (Nowhere ks g ∧ r = 3) ∨ ∃ k, AtFirst ks g k ∧ r = if mayB x (atF ks k).2 then 1 else 2

set_option maxHeartbeats 1000000 in
theorem cask_ok (p : Nat) (v : Value) (s : CkS) (x g r : Int) (w : World) (h : Ck w p v s) (hl : s.ks.length ≤ 100) (h1 : 0 ≤ g) (h2 : g < s.gr) (h3 : 0 ≤ x) (h4 : x ≤ 3) (hr : askV s.ks x g r) :
    Calls Try.prog 16 #[.pointer (some ⟨p, 0, none⟩), .int .i64 x, .int .i64 g] w fun e w' => e = .returned (.tuple #[.int .i64 r, .int .i64 0]) ∧ Below w.heap.size w w' := by
  have H := Lib.hid h
  obtain ⟨A, cap, rfl, hsl, _⟩ := h.val
  have c5 := h.cells.2.2.2.2.2.1
  have c6 := h.cells.2.2.2.2.2.2
  have hlt := h.lt
  have HS := Lib.hid hsl
  clear h hsl
  obtain ⟨sk, sg, sa, ss, se, sr, ks⟩ := s
  dsimp only at *
  have e1 : decide (g < 0) = false := by simp; omega
  have e2 : decide (g ≥ sr) = false := by simp; omega
  have e3 : decide (x < 0) = false := by simp; omega
  have e4 : decide (x > 3) = false := by simp; omega
  rcases hr with ⟨hn, rfl⟩ | ⟨k, hk, hr⟩
  · have HN := Lib.hid hn
    clear hn
    go_enter Try.func16, Try.ntmps16
    go_wp2_with fail
    refine (find_any p _ _ g (-1) _ H.out hl (.inr ⟨HN.out, rfl⟩)).mono ?_
    rintro e w1 ⟨rfl, hb⟩
    have HB := Lib.hid hb
    clear hb
    go_wp2
    go_ret2
    exact ⟨rfl, HB.out⟩
  · have hkl := hk.1
    obtain ⟨bb, off, rfl, hbb, hc⟩ := HS.out (by omega)
    have o1 := (hc k hkl).2
    have HK := Lib.hid hk
    have HR := Lib.hid hr
    clear hc hk hr
    generalize hxy : atF ks k = xy at *
    obtain ⟨xg, xo⟩ := xy
    have HXY := Lib.hid hxy
    dsimp only at *
    clear hxy
    cases hm : mayB x xo
    · have HM := Lib.hid hm
      have HR2 : Hid (r = 2) := Lib.hid (by have := HR.out; rw [HM.out] at this; simpa using this)
      clear hm
      go_enter Try.func16, Try.ntmps16
      go_wp2_with fail
      refine (find_any p _ _ g k _ H.out hl (.inl ⟨k, HK.out, rfl⟩)).mono ?_
      rintro e w1 ⟨rfl, hb⟩
      have c6' := (hb.cell (p := ⟨p, 6, none⟩) hlt).trans c6
      have o1' := (hb.cell (p := ⟨bb, off + k * 2 + 1, none⟩) hbb).trans o1
      have HB := Lib.hid hb
      clear hb
      go_wp2_with fail
      refine (may_any x xo _).mono ?_
      rintro e w2 ⟨rfl, hw⟩
      subst hw
      rw [HM.out]
      go_wp2_with fail
      go_ret2
      exact ⟨by rw [HR2.out]; rfl, HB.out⟩
    · have HM := Lib.hid hm
      have HR2 : Hid (r = 1) := Lib.hid (by have := HR.out; rw [HM.out] at this; simpa using this)
      clear hm
      go_enter Try.func16, Try.ntmps16
      go_wp2_with fail
      refine (find_any p _ _ g k _ H.out hl (.inl ⟨k, HK.out, rfl⟩)).mono ?_
      rintro e w1 ⟨rfl, hb⟩
      have c6' := (hb.cell (p := ⟨p, 6, none⟩) hlt).trans c6
      have o1' := (hb.cell (p := ⟨bb, off + k * 2 + 1, none⟩) hbb).trans o1
      have HB := Lib.hid hb
      clear hb
      go_wp2_with fail
      refine (may_any x xo _).mono ?_
      rintro e w2 ⟨rfl, hw⟩
      subst hw
      rw [HM.out]
      go_wp2_with fail
      go_ret2
      exact ⟨by rw [HR2.out]; rfl, HB.out⟩

theorem ask_some (ks : List Fa) (x g : Int) : ∃ r, askV ks x g r ∧ (r = 1 ∨ r = 2 ∨ r = 3) := by
  rcases where_is ks g with ⟨k, hk⟩ | hn
  · refine ⟨_, .inr ⟨k, hk, rfl⟩, ?_⟩
    split <;> simp
  · exact ⟨3, .inl ⟨hn, rfl⟩, by simp⟩

/-- What a walk's beginning comes to. -/
theorem cbegin_nil (g : Int) (w : World) : Calls Try.prog 18 #[.pointer none, .int .i64 g] w fun e w' => e = .returned (.tuple #[.int .i64 0, .int .i64 2]) ∧ Below w.heap.size w w' := by
  go_enter Try.func18, Try.ntmps18
  go_wp2
  go_ret2
  exact ⟨rfl, Below.refl _ _⟩

/-- Why a walk does not begin. -/
def noBegin (s : CkS) (g r : Int) : Prop := ((g < 0 ∨ s.gr ≤ g) ∧ r = 10) ∨ (0 ≤ g ∧ g < s.gr ∧ (∃ k, AtFirst s.ks g k) ∧ r = 13) ∨ (0 ≤ g ∧ g < s.gr ∧ Nowhere s.ks g ∧ s.wk = true ∧ r = 16)
theorem cbegin_no (p : Nat) (v : Value) (s : CkS) (g r : Int) (w : World) (h : Ck w p v s) (hl : s.ks.length ≤ 100) (hr : noBegin s g r) : Calls Try.prog 18 #[.pointer (some ⟨p, 0, none⟩), .int .i64 g] w fun e w' => e = .returned (.tuple #[.int .i64 0, .int .i64 r]) ∧ Below w.heap.size w w' := by
  have H := Lib.hid h
  have c0 := h.cells.1
  have c5 := h.cells.2.2.2.2.2.1
  have hlt := h.lt
  clear h
  obtain ⟨sk, sg, sa, ss, se, sr, ks⟩ := s
  unfold noBegin at hr
  dsimp only at *
  rcases hr with ⟨h1, rfl⟩ | ⟨h1, h2, ⟨k, hk⟩, rfl⟩ | ⟨h1, h2, hn, rfl, rfl⟩
  · by_cases hg : g < 0
    · clear h1
      go_enter Try.func18, Try.ntmps18
      go_wp2
      go_ret2
      exact ⟨rfl, Below.refl _ _⟩
    · have e1 : decide (g < 0) = false := by simp; omega
      have e2 : decide (g ≥ sr) = true := by simp; omega
      clear h1
      go_enter Try.func18, Try.ntmps18
      go_wp2
      go_ret2
      exact ⟨rfl, Below.refl _ _⟩
  · have e1 : decide (g < 0) = false := by simp; omega
    have e2 : decide (g ≥ sr) = false := by simp; omega
    have HK := Lib.hid hk
    clear hk
    go_enter Try.func18, Try.ntmps18
    go_wp2_with fail
    refine (find_any p _ _ g k _ H.out hl (.inl ⟨k, HK.out, rfl⟩)).mono ?_
    rintro e w1 ⟨rfl, hb⟩
    have HB := Lib.hid hb
    clear hb
    go_wp2_with fail
    go_ret2
    exact ⟨rfl, HB.out⟩
  · have e1 : decide (g < 0) = false := by simp; omega
    have e2 : decide (g ≥ sr) = false := by simp; omega
    have HN := Lib.hid hn
    clear hn
    go_enter Try.func18, Try.ntmps18
    go_wp2_with fail
    refine (find_any p _ _ g (-1) _ H.out hl (.inr ⟨HN.out, rfl⟩)).mono ?_
    rintro e w1 ⟨rfl, hb⟩
    have c0' := (hb.cell (p := ⟨p, 0, none⟩) hlt).trans c0
    have HB := Lib.hid hb
    clear hb
    go_wp2_with fail
    go_ret2
    exact ⟨rfl, HB.out⟩

/-- What a store into a checker turns: its own block alone. -/
theorem Ck.put {w : World} {p : Nat} {v : Value} {s s' : CkS} (h : Ck w p v s) (hk : s'.ks = s.ks) {w' : World} (hb : w'.heap[p]? = some (.cells #[.bool s'.wk, .int .i64 s'.g, .int .i64 s'.a, .bool s'.st, .int .i64 s'.en, .int .i64 s'.gr, v] 93 (0, 0))) (ho : ∀ k, k ≠ p → w'.heap[k]? = w.heap[k]?) : Ck w' p v s' :=
  ⟨hb, by rw [hk]; exact row_keep h.own (fun g hg => ho g (fun e => h.ne (e ▸ hg))), h.ne⟩

/-- A walk stored into a checker. -/
def setW (w : World) (p : Nat) (b : Bool) (g a : Int) (st : Bool) : World := (((w.setCell ⟨p, 0, none⟩ (.bool b)).setCell ⟨p, 1, none⟩ (.int .i64 g)).setCell ⟨p, 2, none⟩ (.int .i64 a)).setCell ⟨p, 3, none⟩ (.bool st)
theorem setW_other (w : World) (p : Nat) (b : Bool) (g a : Int) (st : Bool) (k : Nat) (h : k ≠ p) : (setW w p b g a st).heap[k]? = w.heap[k]? := by
  unfold setW
  repeat rw [Below.heap_setCell _ _ _ _ h]
theorem setW_grown (w : World) (p : Nat) (b : Bool) (g a : Int) (st : Bool) : w.grownBy (setW w p b g a st) (some p) :=
  ⟨rfl, rfl, rfl, by simp [setW], fun k _ hn => setW_other w p b g a st k (fun e => hn (by rw [e]))⟩
theorem Ck.setW {w : World} {p : Nat} {v : Value} {s : CkS} (h : Ck w p v s) (b : Bool) (g a : Int) (st : Bool) : Ck (setW w p b g a st) p v { s with wk := b, g := g, a := a, st := st } := by
  refine h.put (s' := { s with wk := b, g := g, a := a, st := st }) rfl ?_ (setW_other w p b g a st)
  have s0 := Joins.block_setCell (i := 0) h.blk (.bool b)
  have s1 := Joins.block_setCell (i := 1) s0 (.int .i64 g)
  have s2 := Joins.block_setCell (i := 2) s1 (.int .i64 a)
  have s3 := Joins.block_setCell (i := 3) s2 (.bool st)
  unfold Go.Proofs.Ytjggnhcdnfmmeaa.setW
  simpa using s3
theorem grown_trans {a b c : World} {r : Option Nat} (hb : Below a.heap.size a b) (hg : b.grownBy c r) : a.grownBy c r :=
  ⟨hg.os.trans hb.os, hg.tape.trans hb.tape, hg.output.trans hb.output, Nat.le_trans hb.size hg.size, fun k hk hn => (hg.block k (Nat.lt_of_lt_of_le hk hb.size) hn).trans (hb.block k hk)⟩

theorem cbegin_ok (p : Nat) (v : Value) (s : CkS) (g : Int) (w : World) (h : Ck w p v s) (hl : s.ks.length ≤ 100) (h1 : 0 ≤ g) (h2 : g < s.gr) (h16 : s.gr ≤ 16) (hn : Nowhere s.ks g) (hw : s.wk = false) :
    Calls Try.prog 18 #[.pointer (some ⟨p, 0, none⟩), .int .i64 g] w fun e w' => e = .returned (.tuple #[.int .i64 (g / 4), .int .i64 0]) ∧ Ck w' p v { s with wk := true, g := g, a := g / 4, st := false } ∧ w.grownBy w' (some p) := by
  have H := Lib.hid h
  have c0 := h.cells.1
  have c5 := h.cells.2.2.2.2.2.1
  have hlt := h.lt
  clear h
  obtain ⟨sk, sg, sa, ss, se, sr, ks⟩ := s
  dsimp only at *
  subst hw
  have e1 : decide (g < 0) = false := by simp; omega
  have e2 : decide (g ≥ sr) = false := by simp; omega
  have HN := Lib.hid hn
  clear hn
  go_enter Try.func18, Try.ntmps18
  go_wp2_with fail
  refine (find_any p _ _ g (-1) _ H.out hl (.inr ⟨HN.out, rfl⟩)).mono ?_
  rintro e w1 ⟨rfl, hb⟩
  have H1 := Lib.hid (H.out.ext hb)
  obtain ⟨k0, k1, k2, k3, _⟩ := (H.out.ext hb).cells
  have kf := (H.out.ext hb).free
  have kl := (H.out.ext hb).lt
  have HB := Lib.hid hb
  clear hb c0
  dsimp only at *
  go_wp2_with fail
  refine (first_ok g _ h1 (by omega)).mono ?_
  rintro e w2 ⟨rfl, hw⟩
  subst hw
  go_wp2_with fail
  go_ret2
  exact ⟨rfl, H1.out.setW true g (g / 4) false, grown_trans HB.out (setW_grown _ p true g (g / 4) false)⟩

end Go.Proofs.Ytjggnhcdnfmmeaa
