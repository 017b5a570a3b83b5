/- What this text holds: what a core does by itself, op by op. No condition. -/
import Derived.Test.YtkobeajbiendlaaDoorCor
namespace Go.Proofs.YtkobeajbiendlaaDoor
open Go.RowKit

/-- A register turned. -/
def upd (r : Nat → Int) (i : Nat) (x : Int) : Nat → Int := fun j => if j = i then x else r j
theorem Kc.setReg {w : World} {p : Nat} {v : Value} {s : CoS} (h : Kc w p v s) (i : Nat) (hi : i < 4) (x : Int) : Kc (w.setCell ⟨p, i, none⟩ (.int .i64 x)) p v { s with r := upd s.r i x } := by
  refine h.put (s' := { s with r := upd s.r i x }) rfl ?_ (fun k hk _ => Below.heap_setCell _ _ _ _ hk)
  have s1 := Joins.block_setCell (i := i) h.blk (.int .i64 x)
  have : i = 0 ∨ i = 1 ∨ i = 2 ∨ i = 3 := by omega
  rcases this with rfl | rfl | rfl | rfl <;> simpa [upd] using s1
theorem Kc.setWo {w : World} {p : Nat} {v : Value} {s : CoS} (h : Kc w p v s) (x : Int) : Kc (w.setCell ⟨p, 5, none⟩ (.int .i64 x)) p v { s with wo := x } := by
  refine h.put (s' := { s with wo := x }) rfl ?_ (fun k hk _ => Below.heap_setCell _ _ _ _ hk)
  have s1 := Joins.block_setCell (i := 5) h.blk (.int .i64 x)
  simpa using s1
theorem Kc.past {w a b : World} {p q : Nat} {v : Value} {s s' : CoS} (h : Kc w p v s) (h' : Kc a p v s') (hp : s'.ps = s.ps) (hg : a.grownBy b (some q)) (hq : w.heap.size ≤ q) : Kc b p v s' := by
  have hl := h.lt
  have hl' := h'.lt
  refine ⟨(hg.block p hl' (fun e => by have := Option.some.inj e; omega)).trans h'.blk, ?_, h'.ne⟩
  obtain ⟨A, c, hv, h2, h3⟩ := h'.pg
  obtain ⟨A0, c0, hv0, k2, _⟩ := h.pg
  rw [hv] at hv0
  obtain ⟨rfl, _, _⟩ := Value.slice.inj hv0
  refine ⟨A, c, hv, fun h0 => ?_, h3⟩
  obtain ⟨b0, off, hA, hb, _⟩ := k2 (by rw [← hp]; exact h0)
  obtain ⟨b1, off1, hA1, hb1, _⟩ := h2 h0
  refine h2.keep (fun ad hA' => ?_) h0
  rw [hA] at hA' hA1
  obtain rfl := Option.some.inj hA'
  have e := Option.some.inj hA1
  obtain ⟨rfl, _⟩ := (Addr.mk.injEq _ _ _ _ _ _).mp e
  exact hg.block b0 hb1 (fun e => by have := Option.some.inj e; omega)
theorem gr_B {w a b : World} {r : Option Nat} (hb : Below w.heap.size w a) (hg : a.grownBy b r) : w.grownBy b r :=
  ⟨hg.os.trans hb.os, hg.tape.trans hb.tape, hg.output.trans hb.output, Nat.le_trans hb.size hg.size, fun k hk hn => (hg.block k (Nat.lt_of_lt_of_le hk hb.size) hn).trans (hb.block k hk)⟩
theorem gr_N {w a b : World} {p q : Nat} (h : w.grownBy a (some p)) (hg : a.grownBy b (some q)) (hq : w.heap.size ≤ q) : w.grownBy b (some p) :=
  ⟨hg.os.trans h.os, hg.tape.trans h.tape, hg.output.trans h.output, Nat.le_trans h.size hg.size, fun k hk hn => (hg.block k (Nat.lt_of_lt_of_le hk h.size) (fun e => by have := Option.some.inj e; omega)).trans (h.block k hk hn)⟩
theorem gr_drew {a b : World} {r : Option Nat} (h : a.grownBy b r) : a.grownBy b.drew r := ⟨h.os, h.tape, h.output, h.size, h.block⟩
theorem gr_of_drew {a b : World} {r : Option Nat} (h : a.drew.grownBy b r) : a.grownBy b r := ⟨h.os, h.tape, h.output, h.size, h.block⟩
theorem gr_alloc {a : World} (o : Obj) (r : Option Nat) : a.grownBy (a.alloc o) r := World.grownBy_alloc _ _ _

set_option maxRecDepth 100000 in
set_option maxHeartbeats 2000000 in
theorem klocal_fence (p : Nat) (v : Value) (s : CoS) (k : Nat) (a b c : Int) (w : World) (h : Kc w p v s) (he : endB s.ps s.a = false) (ha : s.a = k) (_hk : k < 1000) (hx : atI s.ps s.a.toNat = ⟨6, a, b, c⟩) :
    Calls Tryd.prog 19 #[.pointer (some ⟨p, 0, none⟩)] w fun e w' => e = .returned (.tuple #[.agg #[.int .i64 s.no, .int .i64 k, .int .i64 6, .int .i64 s.wo, .int .i64 0, .int .i64 0, .int .i64 0], .bool true]) ∧ Kc w' p v { s with r := s.r, a := (k : Int) + 1, ov := endB s.ps ((k : Int) + 1) } ∧ w.grownBy w' (some p) := by
  have H := Lib.hid h
  have HE := Lib.hid he
  have HX := Lib.hid hx
  have HA := Lib.hid ha
  clear h he hx ha
  go_enter Tryd.func19, Tryd.ntmps19
  go_wp2_with fail
  have hne := knext_ok p v s _ (H.out.ext (ext_alloc (.cells #[.int .i64 0, .int .i64 0, .int .i64 0, .int .i64 0, .int .i64 0, .int .i64 0, .int .i64 0] 42) (Below.refl _ w))) HE.out
  rw [HX.out] at hne
  refine hne.mono ?_
  clear hne
  rintro e w1 ⟨rfl, hb⟩
  go_upto_if 14 with (fail)
  obtain ⟨W2, hW2⟩ : ∃ W2, W2 = w1.alloc (.cells #[.int .i64 6, .int .i64 a, .int .i64 b, .int .i64 c] 36) := ⟨_, rfl⟩
  have hbW : Below w1.heap.size w1 W2 := by rw [hW2]; exact ext_alloc _ (Below.refl _ _)
  have HB := Lib.hid (ext_trans (ext_alloc (.cells #[.int .i64 0, .int .i64 0, .int .i64 0, .int .i64 0, .int .i64 0, .int .i64 0, .int .i64 0] 42) (Below.refl _ w)) (ext_trans hb hbW))
  have hs1 : w.heap.size < w1.heap.size := by have := hb.size; simp at this; omega
  have HBX := Lib.hid ((hbW.block w.heap.size hs1).trans ((hb.block w.heap.size (by simp)).trans (alNew rfl)))
  have hxx : W2.heap[w1.heap.size]? = some (.cells #[.int .i64 6, .int .i64 a, .int .i64 b, .int .i64 c] 36 (0, 0)) := by rw [hW2]; exact alNew rfl
  have HXX := Lib.hid hxx
  obtain ⟨q0, q1, q2, q3, ql⟩ := ins_cells (x := ⟨6, a, b, c⟩) hxx
  dsimp only at q0 q1 q2 q3
  rw [← hW2]
  clear hb hbW hW2 hxx
  go_wp2_with fail
  clear q0 q1 q2 q3 ql
  have hev := kevent_any p v s ⟨6, a, b, c⟩ W2 (H.out.ext HB.out)
  rw [HA.out] at hev
  refine hev.mono ?_
  clear hev
  rintro e w3 ⟨rfl, hb⟩
  have HB3 := Lib.hid (ext_trans HB.out hb)
  have HK3 := Lib.hid (H.out.ext HB3.out)
  have HBX3 := Lib.hid ((hb.block _ (lt_of HBX.out)).trans HBX.out)
  obtain ⟨q0, q1, q2, q3, ql⟩ := ins_cells (x := ⟨6, a, b, c⟩) ((hb.block _ (lt_of HXX.out)).trans HXX.out)
  dsimp only at q0 q1 q2 q3
  have hpl := HK3.out.lt
  have hpf := HK3.out.free
  have k4 := HK3.out.cells.2.2.2.2.1
  have k5 := HK3.out.cells.2.2.2.2.2.1
  rw [HA.out] at k4
  clear hb
  go_wp2_with fail
  refine (turn_any p v s ((k : Int) + 1) _ (HK3.out.ext (ext_alloc _ (Below.refl _ _)))).mono ?_
  rintro e w5 ⟨⟨r, rfl⟩, hk5, hg5⟩
  have hV : w5.heap[w3.heap.size]? = some (.cells #[.int .i64 s.no, .int .i64 k, .int .i64 6, .int .i64 s.wo, .int .i64 0, .int .i64 0, .int .i64 0] 42 (0, 0)) := (hg5.block w3.heap.size (by simp) (by have := HK3.out.lt; simp; omega)).trans (alNew rfl)
  have hR : w5.heap[w.heap.size]? = some (.cells #[.int .i64 0, .int .i64 0, .int .i64 0, .int .i64 0, .int .i64 0, .int .i64 0, .int .i64 0] 42 (0, 0)) := (hg5.block w.heap.size (by have := lt_of HBX3.out; simp; omega) (by have := H.out.lt; simp; omega)).trans (alOld HBX3.out)
  have HG5 := Lib.hid (gr_B HB3.out (gr_two (gr_alloc _ _) hg5))
  have HK5 := Lib.hid hk5
  have HR := Lib.hid hR
  obtain ⟨v0, v1, v2, v3, v4, v5, v6, _, vl⟩ := ev_cells hV
  obtain ⟨b0, b1, b2, b3, b4, b5, b6, bf, bl⟩ := ev_cells hR
  clear hk5 hg5 hV hR
  go_wp2_with fail
  obtain ⟨W6, hW6⟩ : ∃ W6, W6 = set7 w5 w.heap.size (.int .i64 s.no) (.int .i64 k) (.int .i64 6) (.int .i64 s.wo) (.int .i64 0) (.int .i64 0) (.int .i64 0) := ⟨_, rfl⟩
  have hbk := set7_blk (.int .i64 s.no) (.int .i64 k) (.int .i64 6) (.int .i64 s.wo) (.int .i64 0) (.int .i64 0) (.int .i64 0) HR.out
  have hgr := set7_grown w5 w.heap.size (.int .i64 s.no) (.int .i64 k) (.int .i64 6) (.int .i64 s.wo) (.int .i64 0) (.int .i64 0) (.int .i64 0)
  rw [← hW6] at hbk hgr
  unfold set7 at hW6
  rw [← hW6]
  obtain ⟨d0, d1, d2, d3, d4, d5, d6, df, dl⟩ := ev_cells hbk
  clear b0 b1 b2 b3 b4 b5 b6 bf bl
  (try simp only [Exit.inBlock, Exit.then]); refine bodyPost_ret (by simp [results, Tryd.results19, go_sem, d0, d1, d2, d3, d4, d5, d6]; try rfl) rfl ?_
  exact ⟨rfl, H.out.past HK5.out rfl hgr (Nat.le_refl _), gr_N HG5.out hgr (Nat.le_refl _)⟩

set_option maxRecDepth 100000 in
set_option maxHeartbeats 2000000 in
theorem klocal_jump (p : Nat) (v : Value) (s : CoS) (k : Nat) (a b c : Int) (w : World) (h : Kc w p v s) (he : endB s.ps s.a = false) (ha : s.a = k) (_hk : k < 1000) (hx : atI s.ps s.a.toNat = ⟨9, a, b, c⟩) :
    Calls Tryd.prog 19 #[.pointer (some ⟨p, 0, none⟩)] w fun e w' => e = .returned (.tuple #[.agg #[.int .i64 s.no, .int .i64 k, .int .i64 9, .int .i64 s.wo, .int .i64 0, .int .i64 a, .int .i64 0], .bool true]) ∧ Kc w' p v { s with r := s.r, a := a, ov := endB s.ps (a) } ∧ w.grownBy w' (some p) := by
  have H := Lib.hid h
  have HE := Lib.hid he
  have HX := Lib.hid hx
  have HA := Lib.hid ha
  clear h he hx ha
  go_enter Tryd.func19, Tryd.ntmps19
  go_wp2_with fail
  have hne := knext_ok p v s _ (H.out.ext (ext_alloc (.cells #[.int .i64 0, .int .i64 0, .int .i64 0, .int .i64 0, .int .i64 0, .int .i64 0, .int .i64 0] 42) (Below.refl _ w))) HE.out
  rw [HX.out] at hne
  refine hne.mono ?_
  clear hne
  rintro e w1 ⟨rfl, hb⟩
  go_upto_if 14 with (fail)
  obtain ⟨W2, hW2⟩ : ∃ W2, W2 = w1.alloc (.cells #[.int .i64 9, .int .i64 a, .int .i64 b, .int .i64 c] 36) := ⟨_, rfl⟩
  have hbW : Below w1.heap.size w1 W2 := by rw [hW2]; exact ext_alloc _ (Below.refl _ _)
  have HB := Lib.hid (ext_trans (ext_alloc (.cells #[.int .i64 0, .int .i64 0, .int .i64 0, .int .i64 0, .int .i64 0, .int .i64 0, .int .i64 0] 42) (Below.refl _ w)) (ext_trans hb hbW))
  have hs1 : w.heap.size < w1.heap.size := by have := hb.size; simp at this; omega
  have HBX := Lib.hid ((hbW.block w.heap.size hs1).trans ((hb.block w.heap.size (by simp)).trans (alNew rfl)))
  have hxx : W2.heap[w1.heap.size]? = some (.cells #[.int .i64 9, .int .i64 a, .int .i64 b, .int .i64 c] 36 (0, 0)) := by rw [hW2]; exact alNew rfl
  have HXX := Lib.hid hxx
  obtain ⟨q0, q1, q2, q3, ql⟩ := ins_cells (x := ⟨9, a, b, c⟩) hxx
  dsimp only at q0 q1 q2 q3
  rw [← hW2]
  clear hb hbW hW2 hxx
  go_wp2_with fail
  clear q0 q1 q2 q3 ql
  have hev := kevent_any p v s ⟨9, a, b, c⟩ W2 (H.out.ext HB.out)
  rw [HA.out] at hev
  refine hev.mono ?_
  clear hev
  rintro e w3 ⟨rfl, hb⟩
  have HB3 := Lib.hid (ext_trans HB.out hb)
  have HK3 := Lib.hid (H.out.ext HB3.out)
  have HBX3 := Lib.hid ((hb.block _ (lt_of HBX.out)).trans HBX.out)
  obtain ⟨q0, q1, q2, q3, ql⟩ := ins_cells (x := ⟨9, a, b, c⟩) ((hb.block _ (lt_of HXX.out)).trans HXX.out)
  dsimp only at q0 q1 q2 q3
  have hpl := HK3.out.lt
  have hpf := HK3.out.free
  have k4 := HK3.out.cells.2.2.2.2.1
  have k5 := HK3.out.cells.2.2.2.2.2.1
  rw [HA.out] at k4
  clear hb
  go_wp2_with fail
  refine (turn_any p v s (a) _ (HK3.out.ext (ext_alloc _ (Below.refl _ _)))).mono ?_
  rintro e w5 ⟨⟨r, rfl⟩, hk5, hg5⟩
  have hV : w5.heap[w3.heap.size]? = some (.cells #[.int .i64 s.no, .int .i64 k, .int .i64 9, .int .i64 s.wo, .int .i64 0, .int .i64 a, .int .i64 0] 42 (0, 0)) := (hg5.block w3.heap.size (by simp) (by have := HK3.out.lt; simp; omega)).trans (alNew rfl)
  have hR : w5.heap[w.heap.size]? = some (.cells #[.int .i64 0, .int .i64 0, .int .i64 0, .int .i64 0, .int .i64 0, .int .i64 0, .int .i64 0] 42 (0, 0)) := (hg5.block w.heap.size (by have := lt_of HBX3.out; simp; omega) (by have := H.out.lt; simp; omega)).trans (alOld HBX3.out)
  have HG5 := Lib.hid (gr_B HB3.out (gr_two (gr_alloc _ _) hg5))
  have HK5 := Lib.hid hk5
  have HR := Lib.hid hR
  obtain ⟨v0, v1, v2, v3, v4, v5, v6, _, vl⟩ := ev_cells hV
  obtain ⟨b0, b1, b2, b3, b4, b5, b6, bf, bl⟩ := ev_cells hR
  clear hk5 hg5 hV hR
  go_wp2_with fail
  obtain ⟨W6, hW6⟩ : ∃ W6, W6 = set7 w5 w.heap.size (.int .i64 s.no) (.int .i64 k) (.int .i64 9) (.int .i64 s.wo) (.int .i64 0) (.int .i64 a) (.int .i64 0) := ⟨_, rfl⟩
  have hbk := set7_blk (.int .i64 s.no) (.int .i64 k) (.int .i64 9) (.int .i64 s.wo) (.int .i64 0) (.int .i64 a) (.int .i64 0) HR.out
  have hgr := set7_grown w5 w.heap.size (.int .i64 s.no) (.int .i64 k) (.int .i64 9) (.int .i64 s.wo) (.int .i64 0) (.int .i64 a) (.int .i64 0)
  rw [← hW6] at hbk hgr
  unfold set7 at hW6
  rw [← hW6]
  obtain ⟨d0, d1, d2, d3, d4, d5, d6, df, dl⟩ := ev_cells hbk
  clear b0 b1 b2 b3 b4 b5 b6 bf bl
  (try simp only [Exit.inBlock, Exit.then]); refine bodyPost_ret (by simp [results, Tryd.results19, go_sem, d0, d1, d2, d3, d4, d5, d6]; try rfl) rfl ?_
  exact ⟨rfl, H.out.past HK5.out rfl hgr (Nat.le_refl _), gr_N HG5.out hgr (Nat.le_refl _)⟩

set_option maxRecDepth 100000 in
set_option maxHeartbeats 2000000 in
theorem klocal_world1 (p : Nat) (v : Value) (s : CoS) (k : Nat) (a b c : Int) (w : World) (h : Kc w p v s) (he : endB s.ps s.a = false) (ha : s.a = k) (_hk : k < 1000) (hx : atI s.ps s.a.toNat = ⟨7, a, b, c⟩) (hw : s.wo ≠ 0) :
    Calls Tryd.prog 19 #[.pointer (some ⟨p, 0, none⟩)] w fun e w' => e = .returned (.tuple #[.agg #[.int .i64 s.no, .int .i64 k, .int .i64 7, .int .i64 s.wo, .int .i64 0, .int .i64 a, .int .i64 18], .bool true]) ∧ Kc w' p v { s with r := s.r, a := (k : Int) + 1, ov := endB s.ps ((k : Int) + 1) } ∧ w.grownBy w' (some p) := by
  have hw0 : (s.wo == 0) = false := by simpa using hw
  have H := Lib.hid h
  have HE := Lib.hid he
  have HX := Lib.hid hx
  have HA := Lib.hid ha
  clear h he hx ha
  go_enter Tryd.func19, Tryd.ntmps19
  go_wp2_with fail
  have hne := knext_ok p v s _ (H.out.ext (ext_alloc (.cells #[.int .i64 0, .int .i64 0, .int .i64 0, .int .i64 0, .int .i64 0, .int .i64 0, .int .i64 0] 42) (Below.refl _ w))) HE.out
  rw [HX.out] at hne
  refine hne.mono ?_
  clear hne
  rintro e w1 ⟨rfl, hb⟩
  go_upto_if 14 with (fail)
  obtain ⟨W2, hW2⟩ : ∃ W2, W2 = w1.alloc (.cells #[.int .i64 7, .int .i64 a, .int .i64 b, .int .i64 c] 36) := ⟨_, rfl⟩
  have hbW : Below w1.heap.size w1 W2 := by rw [hW2]; exact ext_alloc _ (Below.refl _ _)
  have HB := Lib.hid (ext_trans (ext_alloc (.cells #[.int .i64 0, .int .i64 0, .int .i64 0, .int .i64 0, .int .i64 0, .int .i64 0, .int .i64 0] 42) (Below.refl _ w)) (ext_trans hb hbW))
  have hs1 : w.heap.size < w1.heap.size := by have := hb.size; simp at this; omega
  have HBX := Lib.hid ((hbW.block w.heap.size hs1).trans ((hb.block w.heap.size (by simp)).trans (alNew rfl)))
  have hxx : W2.heap[w1.heap.size]? = some (.cells #[.int .i64 7, .int .i64 a, .int .i64 b, .int .i64 c] 36 (0, 0)) := by rw [hW2]; exact alNew rfl
  have HXX := Lib.hid hxx
  obtain ⟨q0, q1, q2, q3, ql⟩ := ins_cells (x := ⟨7, a, b, c⟩) hxx
  dsimp only at q0 q1 q2 q3
  rw [← hW2]
  clear hb hbW hW2 hxx
  go_wp2_with fail
  clear q0 q1 q2 q3 ql
  have hev := kevent_any p v s ⟨7, a, b, c⟩ W2 (H.out.ext HB.out)
  rw [HA.out] at hev
  refine hev.mono ?_
  clear hev
  rintro e w3 ⟨rfl, hb⟩
  have HB3 := Lib.hid (ext_trans HB.out hb)
  have HK3 := Lib.hid (H.out.ext HB3.out)
  have HBX3 := Lib.hid ((hb.block _ (lt_of HBX.out)).trans HBX.out)
  obtain ⟨q0, q1, q2, q3, ql⟩ := ins_cells (x := ⟨7, a, b, c⟩) ((hb.block _ (lt_of HXX.out)).trans HXX.out)
  dsimp only at q0 q1 q2 q3
  have hpl := HK3.out.lt
  have hpf := HK3.out.free
  have k4 := HK3.out.cells.2.2.2.2.1
  have k5 := HK3.out.cells.2.2.2.2.2.1
  rw [HA.out] at k4
  clear hb
  go_wp2_with fail
  refine (turn_any p v s ((k : Int) + 1) _ (HK3.out.ext (ext_alloc _ (Below.refl _ _)))).mono ?_
  rintro e w5 ⟨⟨r, rfl⟩, hk5, hg5⟩
  have hV : w5.heap[w3.heap.size]? = some (.cells #[.int .i64 s.no, .int .i64 k, .int .i64 7, .int .i64 s.wo, .int .i64 0, .int .i64 a, .int .i64 18] 42 (0, 0)) := (hg5.block w3.heap.size (by simp) (by have := HK3.out.lt; simp; omega)).trans (alNew rfl)
  have hR : w5.heap[w.heap.size]? = some (.cells #[.int .i64 0, .int .i64 0, .int .i64 0, .int .i64 0, .int .i64 0, .int .i64 0, .int .i64 0] 42 (0, 0)) := (hg5.block w.heap.size (by have := lt_of HBX3.out; simp; omega) (by have := H.out.lt; simp; omega)).trans (alOld HBX3.out)
  have HG5 := Lib.hid (gr_B HB3.out (gr_two (gr_alloc _ _) hg5))
  have HK5 := Lib.hid hk5
  have HR := Lib.hid hR
  obtain ⟨v0, v1, v2, v3, v4, v5, v6, _, vl⟩ := ev_cells hV
  obtain ⟨b0, b1, b2, b3, b4, b5, b6, bf, bl⟩ := ev_cells hR
  clear hk5 hg5 hV hR
  go_wp2_with fail
  obtain ⟨W6, hW6⟩ : ∃ W6, W6 = set7 w5 w.heap.size (.int .i64 s.no) (.int .i64 k) (.int .i64 7) (.int .i64 s.wo) (.int .i64 0) (.int .i64 a) (.int .i64 18) := ⟨_, rfl⟩
  have hbk := set7_blk (.int .i64 s.no) (.int .i64 k) (.int .i64 7) (.int .i64 s.wo) (.int .i64 0) (.int .i64 a) (.int .i64 18) HR.out
  have hgr := set7_grown w5 w.heap.size (.int .i64 s.no) (.int .i64 k) (.int .i64 7) (.int .i64 s.wo) (.int .i64 0) (.int .i64 a) (.int .i64 18)
  rw [← hW6] at hbk hgr
  unfold set7 at hW6
  rw [← hW6]
  obtain ⟨d0, d1, d2, d3, d4, d5, d6, df, dl⟩ := ev_cells hbk
  clear b0 b1 b2 b3 b4 b5 b6 bf bl
  (try simp only [Exit.inBlock, Exit.then]); refine bodyPost_ret (by simp [results, Tryd.results19, go_sem, d0, d1, d2, d3, d4, d5, d6]; try rfl) rfl ?_
  exact ⟨rfl, H.out.past HK5.out rfl hgr (Nat.le_refl _), gr_N HG5.out hgr (Nat.le_refl _)⟩

set_option maxRecDepth 100000 in
set_option maxHeartbeats 2000000 in
theorem klocal_world0 (p : Nat) (v : Value) (s : CoS) (k : Nat) (a b c : Int) (w : World) (h : Kc w p v s) (he : endB s.ps s.a = false) (ha : s.a = k) (_hk : k < 1000) (hx : atI s.ps s.a.toNat = ⟨7, a, b, c⟩) (hw : s.wo = 0) :
    Calls Tryd.prog 19 #[.pointer (some ⟨p, 0, none⟩)] w fun e w' => e = .returned (.tuple #[.agg #[.int .i64 s.no, .int .i64 k, .int .i64 7, .int .i64 0, .int .i64 0, .int .i64 a, .int .i64 0], .bool true]) ∧ Kc w' p v { s with wo := a, a := (k : Int) + 1, ov := endB s.ps ((k : Int) + 1) } ∧ w.grownBy w' (some p) := by
  have hw0 : (s.wo == 0) = true := by simpa using hw
  have H := Lib.hid h
  have HE := Lib.hid he
  have HX := Lib.hid hx
  have HA := Lib.hid ha
  clear h he hx ha
  go_enter Tryd.func19, Tryd.ntmps19
  go_wp2_with fail
  have hne := knext_ok p v s _ (H.out.ext (ext_alloc (.cells #[.int .i64 0, .int .i64 0, .int .i64 0, .int .i64 0, .int .i64 0, .int .i64 0, .int .i64 0] 42) (Below.refl _ w))) HE.out
  rw [HX.out] at hne
  refine hne.mono ?_
  clear hne
  rintro e w1 ⟨rfl, hb⟩
  go_upto_if 14 with (fail)
  obtain ⟨W2, hW2⟩ : ∃ W2, W2 = w1.alloc (.cells #[.int .i64 7, .int .i64 a, .int .i64 b, .int .i64 c] 36) := ⟨_, rfl⟩
  have hbW : Below w1.heap.size w1 W2 := by rw [hW2]; exact ext_alloc _ (Below.refl _ _)
  have HB := Lib.hid (ext_trans (ext_alloc (.cells #[.int .i64 0, .int .i64 0, .int .i64 0, .int .i64 0, .int .i64 0, .int .i64 0, .int .i64 0] 42) (Below.refl _ w)) (ext_trans hb hbW))
  have hs1 : w.heap.size < w1.heap.size := by have := hb.size; simp at this; omega
  have HBX := Lib.hid ((hbW.block w.heap.size hs1).trans ((hb.block w.heap.size (by simp)).trans (alNew rfl)))
  have hxx : W2.heap[w1.heap.size]? = some (.cells #[.int .i64 7, .int .i64 a, .int .i64 b, .int .i64 c] 36 (0, 0)) := by rw [hW2]; exact alNew rfl
  have HXX := Lib.hid hxx
  obtain ⟨q0, q1, q2, q3, ql⟩ := ins_cells (x := ⟨7, a, b, c⟩) hxx
  dsimp only at q0 q1 q2 q3
  rw [← hW2]
  clear hb hbW hW2 hxx
  go_wp2_with fail
  clear q0 q1 q2 q3 ql
  have hev := kevent_any p v s ⟨7, a, b, c⟩ W2 (H.out.ext HB.out)
  rw [HA.out] at hev
  refine hev.mono ?_
  clear hev
  rintro e w3 ⟨rfl, hb⟩
  have HB3 := Lib.hid (ext_trans HB.out hb)
  have HK3 := Lib.hid (H.out.ext HB3.out)
  have HBX3 := Lib.hid ((hb.block _ (lt_of HBX.out)).trans HBX.out)
  obtain ⟨q0, q1, q2, q3, ql⟩ := ins_cells (x := ⟨7, a, b, c⟩) ((hb.block _ (lt_of HXX.out)).trans HXX.out)
  dsimp only at q0 q1 q2 q3
  have hpl := HK3.out.lt
  have hpf := HK3.out.free
  have k4 := HK3.out.cells.2.2.2.2.1
  have k5 := HK3.out.cells.2.2.2.2.2.1
  rw [HA.out] at k4
  clear hb
  go_wp2_with fail
  refine (turn_any p v { s with wo := a } ((k : Int) + 1) _ ((HK3.out.setWo a).ext (ext_alloc _ (Below.refl _ _)))).mono ?_
  rintro e w5 ⟨⟨r, rfl⟩, hk5, hg5⟩
  have hV : w5.heap[w3.heap.size]? = some (.cells #[.int .i64 s.no, .int .i64 k, .int .i64 7, .int .i64 0, .int .i64 0, .int .i64 a, .int .i64 0] 42 (0, 0)) := (hg5.block w3.heap.size (by simp) (by have := HK3.out.lt; simp; omega)).trans (by first | exact alNew rfl | exact alNew (by simp))
  have hR : w5.heap[w.heap.size]? = some (.cells #[.int .i64 0, .int .i64 0, .int .i64 0, .int .i64 0, .int .i64 0, .int .i64 0, .int .i64 0] 42 (0, 0)) := (hg5.block w.heap.size (by have := lt_of HBX3.out; simp; omega) (by have := H.out.lt; simp; omega)).trans (alOld ((Below.heap_setCell _ _ _ _ (show w.heap.size ≠ p by have := H.out.lt; omega)).trans HBX3.out))
  have HG5 := Lib.hid (gr_B HB3.out (gr_two (gr_two (sc_grown _ _ _ _) (gr_alloc _ _)) hg5))
  have HK5 := Lib.hid hk5
  have HR := Lib.hid hR
  obtain ⟨v0, v1, v2, v3, v4, v5, v6, _, vl⟩ := ev_cells hV
  obtain ⟨b0, b1, b2, b3, b4, b5, b6, bf, bl⟩ := ev_cells hR
  clear hk5 hg5 hV hR
  go_wp2_with fail
  obtain ⟨W6, hW6⟩ : ∃ W6, W6 = set7 w5 w.heap.size (.int .i64 s.no) (.int .i64 k) (.int .i64 7) (.int .i64 0) (.int .i64 0) (.int .i64 a) (.int .i64 0) := ⟨_, rfl⟩
  have hbk := set7_blk (.int .i64 s.no) (.int .i64 k) (.int .i64 7) (.int .i64 0) (.int .i64 0) (.int .i64 a) (.int .i64 0) HR.out
  have hgr := set7_grown w5 w.heap.size (.int .i64 s.no) (.int .i64 k) (.int .i64 7) (.int .i64 0) (.int .i64 0) (.int .i64 a) (.int .i64 0)
  rw [← hW6] at hbk hgr
  unfold set7 at hW6
  rw [← hW6]
  obtain ⟨d0, d1, d2, d3, d4, d5, d6, df, dl⟩ := ev_cells hbk
  clear b0 b1 b2 b3 b4 b5 b6 bf bl
  (try simp only [Exit.inBlock, Exit.then]); refine bodyPost_ret (by simp [results, Tryd.results19, go_sem, d0, d1, d2, d3, d4, d5, d6]; try rfl) rfl ?_
  exact ⟨rfl, H.out.past HK5.out rfl hgr (Nat.le_refl _), gr_N HG5.out hgr (Nat.le_refl _)⟩

set_option maxRecDepth 100000 in
set_option maxHeartbeats 2000000 in
theorem klocal_set (p : Nat) (v : Value) (s : CoS) (k : Nat) (i : Nat) (b c : Int) (w : World) (h : Kc w p v s) (he : endB s.ps s.a = false) (ha : s.a = k) (_hk : k < 1000) (hx : atI s.ps s.a.toNat = ⟨1, (i : Nat), b, c⟩) (hi : i < 4) :
    Calls Tryd.prog 19 #[.pointer (some ⟨p, 0, none⟩)] w fun e w' => e = .returned (.tuple #[.agg #[.int .i64 s.no, .int .i64 k, .int .i64 1, .int .i64 s.wo, .int .i64 0, .int .i64 b, .int .i64 0], .bool true]) ∧ Kc w' p v { s with r := upd s.r i b, a := (k : Int) + 1, ov := endB s.ps ((k : Int) + 1) } ∧ w.grownBy w' (some p) := by
  have H := Lib.hid h
  have HE := Lib.hid he
  have HX := Lib.hid hx
  have HA := Lib.hid ha
  clear h he hx ha
  go_enter Tryd.func19, Tryd.ntmps19
  go_wp2_with fail
  have hne := knext_ok p v s _ (H.out.ext (ext_alloc (.cells #[.int .i64 0, .int .i64 0, .int .i64 0, .int .i64 0, .int .i64 0, .int .i64 0, .int .i64 0] 42) (Below.refl _ w))) HE.out
  rw [HX.out] at hne
  refine hne.mono ?_
  clear hne
  rintro e w1 ⟨rfl, hb⟩
  go_upto_if 14 with (fail)
  obtain ⟨W2, hW2⟩ : ∃ W2, W2 = w1.alloc (.cells #[.int .i64 1, .int .i64 (i : Nat), .int .i64 b, .int .i64 c] 36) := ⟨_, rfl⟩
  have hbW : Below w1.heap.size w1 W2 := by rw [hW2]; exact ext_alloc _ (Below.refl _ _)
  have HB := Lib.hid (ext_trans (ext_alloc (.cells #[.int .i64 0, .int .i64 0, .int .i64 0, .int .i64 0, .int .i64 0, .int .i64 0, .int .i64 0] 42) (Below.refl _ w)) (ext_trans hb hbW))
  have hs1 : w.heap.size < w1.heap.size := by have := hb.size; simp at this; omega
  have HBX := Lib.hid ((hbW.block w.heap.size hs1).trans ((hb.block w.heap.size (by simp)).trans (alNew rfl)))
  have hxx : W2.heap[w1.heap.size]? = some (.cells #[.int .i64 1, .int .i64 (i : Nat), .int .i64 b, .int .i64 c] 36 (0, 0)) := by rw [hW2]; exact alNew rfl
  have HXX := Lib.hid hxx
  obtain ⟨q0, q1, q2, q3, ql⟩ := ins_cells (x := ⟨1, (i : Nat), b, c⟩) hxx
  dsimp only at q0 q1 q2 q3
  rw [← hW2]
  clear hb hbW hW2 hxx
  go_wp2_with fail
  clear q0 q1 q2 q3 ql
  have hev := kevent_any p v s ⟨1, (i : Nat), b, c⟩ W2 (H.out.ext HB.out)
  rw [HA.out] at hev
  refine hev.mono ?_
  clear hev
  rintro e w3 ⟨rfl, hb⟩
  have HB3 := Lib.hid (ext_trans HB.out hb)
  have HK3 := Lib.hid (H.out.ext HB3.out)
  have HBX3 := Lib.hid ((hb.block _ (lt_of HBX.out)).trans HBX.out)
  obtain ⟨q0, q1, q2, q3, ql⟩ := ins_cells (x := ⟨1, (i : Nat), b, c⟩) ((hb.block _ (lt_of HXX.out)).trans HXX.out)
  dsimp only at q0 q1 q2 q3
  have hpl := HK3.out.lt
  have hpf := HK3.out.free
  have k4 := HK3.out.cells.2.2.2.2.1
  have k5 := HK3.out.cells.2.2.2.2.2.1
  rw [HA.out] at k4
  clear hb
  have r1 := HK3.out.reg i hi
  go_wp2_with fail
  go_region
  go_wp2_with fail
  refine (turn_any p v { s with r := upd s.r i (b) } ((k : Int) + 1) _ ((HK3.out.setReg i hi (b)).ext (by (first | exact ext_drew (ext_drew (ext_drew (ext_alloc _ (Below.refl _ _)))) | exact ext_drew (ext_drew (ext_alloc _ (Below.refl _ _))) | exact ext_drew (ext_alloc _ (Below.refl _ _)) | exact ext_alloc _ (Below.refl _ _))))).mono ?_
  rintro e w5 ⟨⟨r, rfl⟩, hk5, hg5⟩
  have hV : w5.heap[w3.heap.size]? = some (.cells #[.int .i64 s.no, .int .i64 k, .int .i64 1, .int .i64 s.wo, .int .i64 0, .int .i64 b, .int .i64 0] 42 (0, 0)) := (hg5.block w3.heap.size (by simp) (by have := HK3.out.lt; simp; omega)).trans (alNew (by simp))
  have hR : w5.heap[w.heap.size]? = some (.cells #[.int .i64 0, .int .i64 0, .int .i64 0, .int .i64 0, .int .i64 0, .int .i64 0, .int .i64 0] 42 (0, 0)) := (hg5.block w.heap.size (by have := lt_of HBX3.out; simp; omega) (by have := H.out.lt; simp; omega)).trans (alOld ((Below.heap_setCell _ _ _ _ (show w.heap.size ≠ p by have := H.out.lt; omega)).trans HBX3.out))
  have HG5 := Lib.hid (gr_B HB3.out (gr_two (gr_two (sc_grown _ _ _ _) (by first | exact gr_drew (gr_drew (gr_alloc _ _)) | exact gr_drew (gr_alloc _ _) | exact gr_alloc _ _)) hg5))
  have HK5 := Lib.hid hk5
  have HR := Lib.hid hR
  obtain ⟨v0, v1, v2, v3, v4, v5, v6, _, vl⟩ := ev_cells hV
  obtain ⟨b0, b1, b2, b3, b4, b5, b6, bf, bl⟩ := ev_cells hR
  clear hk5 hg5 hV hR
  go_wp2_with fail
  obtain ⟨W6, hW6⟩ : ∃ W6, W6 = set7 w5 w.heap.size (.int .i64 s.no) (.int .i64 k) (.int .i64 1) (.int .i64 s.wo) (.int .i64 0) (.int .i64 b) (.int .i64 0) := ⟨_, rfl⟩
  have hbk := set7_blk (.int .i64 s.no) (.int .i64 k) (.int .i64 1) (.int .i64 s.wo) (.int .i64 0) (.int .i64 b) (.int .i64 0) HR.out
  have hgr := set7_grown w5 w.heap.size (.int .i64 s.no) (.int .i64 k) (.int .i64 1) (.int .i64 s.wo) (.int .i64 0) (.int .i64 b) (.int .i64 0)
  rw [← hW6] at hbk hgr
  unfold set7 at hW6
  rw [← hW6]
  obtain ⟨d0, d1, d2, d3, d4, d5, d6, df, dl⟩ := ev_cells hbk
  clear b0 b1 b2 b3 b4 b5 b6 bf bl
  (try simp only [Exit.inBlock, Exit.then]); refine bodyPost_ret (by simp [results, Tryd.results19, go_sem, d0, d1, d2, d3, d4, d5, d6]; try rfl) rfl ?_
  exact ⟨rfl, H.out.past HK5.out rfl hgr (Nat.le_refl _), gr_N HG5.out hgr (Nat.le_refl _)⟩

set_option maxRecDepth 100000 in
set_option maxHeartbeats 2000000 in
theorem klocal_add (p : Nat) (v : Value) (s : CoS) (k : Nat) (i j l : Nat) (w : World) (h : Kc w p v s) (he : endB s.ps s.a = false) (ha : s.a = k) (_hk : k < 1000) (hx : atI s.ps s.a.toNat = ⟨2, (i : Nat), (j : Nat), (l : Nat)⟩) (hi : i < 4) (hj : j < 4) (hl : l < 4) :
    Calls Tryd.prog 19 #[.pointer (some ⟨p, 0, none⟩)] w fun e w' => e = .returned (.tuple #[.agg #[.int .i64 s.no, .int .i64 k, .int .i64 2, .int .i64 s.wo, .int .i64 0, .int .i64 (wrap64 (s.r j + s.r l)), .int .i64 0], .bool true]) ∧ Kc w' p v { s with r := upd s.r i (wrap64 (s.r j + s.r l)), a := (k : Int) + 1, ov := endB s.ps ((k : Int) + 1) } ∧ w.grownBy w' (some p) := by
  have H := Lib.hid h
  have HE := Lib.hid he
  have HX := Lib.hid hx
  have HA := Lib.hid ha
  clear h he hx ha
  go_enter Tryd.func19, Tryd.ntmps19
  go_wp2_with fail
  have hne := knext_ok p v s _ (H.out.ext (ext_alloc (.cells #[.int .i64 0, .int .i64 0, .int .i64 0, .int .i64 0, .int .i64 0, .int .i64 0, .int .i64 0] 42) (Below.refl _ w))) HE.out
  rw [HX.out] at hne
  refine hne.mono ?_
  clear hne
  rintro e w1 ⟨rfl, hb⟩
  go_upto_if 14 with (fail)
  obtain ⟨W2, hW2⟩ : ∃ W2, W2 = w1.alloc (.cells #[.int .i64 2, .int .i64 (i : Nat), .int .i64 (j : Nat), .int .i64 (l : Nat)] 36) := ⟨_, rfl⟩
  have hbW : Below w1.heap.size w1 W2 := by rw [hW2]; exact ext_alloc _ (Below.refl _ _)
  have HB := Lib.hid (ext_trans (ext_alloc (.cells #[.int .i64 0, .int .i64 0, .int .i64 0, .int .i64 0, .int .i64 0, .int .i64 0, .int .i64 0] 42) (Below.refl _ w)) (ext_trans hb hbW))
  have hs1 : w.heap.size < w1.heap.size := by have := hb.size; simp at this; omega
  have HBX := Lib.hid ((hbW.block w.heap.size hs1).trans ((hb.block w.heap.size (by simp)).trans (alNew rfl)))
  have hxx : W2.heap[w1.heap.size]? = some (.cells #[.int .i64 2, .int .i64 (i : Nat), .int .i64 (j : Nat), .int .i64 (l : Nat)] 36 (0, 0)) := by rw [hW2]; exact alNew rfl
  have HXX := Lib.hid hxx
  obtain ⟨q0, q1, q2, q3, ql⟩ := ins_cells (x := ⟨2, (i : Nat), (j : Nat), (l : Nat)⟩) hxx
  dsimp only at q0 q1 q2 q3
  rw [← hW2]
  clear hb hbW hW2 hxx
  go_wp2_with fail
  clear q0 q1 q2 q3 ql
  have hev := kevent_any p v s ⟨2, (i : Nat), (j : Nat), (l : Nat)⟩ W2 (H.out.ext HB.out)
  rw [HA.out] at hev
  refine hev.mono ?_
  clear hev
  rintro e w3 ⟨rfl, hb⟩
  have HB3 := Lib.hid (ext_trans HB.out hb)
  have HK3 := Lib.hid (H.out.ext HB3.out)
  have HBX3 := Lib.hid ((hb.block _ (lt_of HBX.out)).trans HBX.out)
  obtain ⟨q0, q1, q2, q3, ql⟩ := ins_cells (x := ⟨2, (i : Nat), (j : Nat), (l : Nat)⟩) ((hb.block _ (lt_of HXX.out)).trans HXX.out)
  dsimp only at q0 q1 q2 q3
  have hpl := HK3.out.lt
  have hpf := HK3.out.free
  have k4 := HK3.out.cells.2.2.2.2.1
  have k5 := HK3.out.cells.2.2.2.2.2.1
  rw [HA.out] at k4
  clear hb
  have r1 := HK3.out.reg i hi
  have r2 := HK3.out.reg j hj
  have r3 := HK3.out.reg l hl
  go_wp2_with fail
  go_region
  go_wp2_with fail
  go_region
  go_wp2_with fail
  refine (turn_any p v { s with r := upd s.r i (wrap64 (s.r j + s.r l)) } ((k : Int) + 1) _ ((HK3.out.setReg i hi (wrap64 (s.r j + s.r l))).ext (by (first | exact ext_drew (ext_drew (ext_drew (ext_alloc _ (Below.refl _ _)))) | exact ext_drew (ext_drew (ext_alloc _ (Below.refl _ _))) | exact ext_drew (ext_alloc _ (Below.refl _ _)) | exact ext_alloc _ (Below.refl _ _))))).mono ?_
  rintro e w5 ⟨⟨r, rfl⟩, hk5, hg5⟩
  have hV : w5.heap[w3.heap.size]? = some (.cells #[.int .i64 s.no, .int .i64 k, .int .i64 2, .int .i64 s.wo, .int .i64 0, .int .i64 (wrap64 (s.r j + s.r l)), .int .i64 0] 42 (0, 0)) := (hg5.block w3.heap.size (by simp) (by have := HK3.out.lt; simp; omega)).trans (alNew (by simp))
  have hR : w5.heap[w.heap.size]? = some (.cells #[.int .i64 0, .int .i64 0, .int .i64 0, .int .i64 0, .int .i64 0, .int .i64 0, .int .i64 0] 42 (0, 0)) := (hg5.block w.heap.size (by have := lt_of HBX3.out; simp; omega) (by have := H.out.lt; simp; omega)).trans (alOld ((Below.heap_setCell _ _ _ _ (show w.heap.size ≠ p by have := H.out.lt; omega)).trans HBX3.out))
  have HG5 := Lib.hid (gr_B HB3.out (gr_two (gr_two (sc_grown _ _ _ _) (by first | exact gr_drew (gr_drew (gr_alloc _ _)) | exact gr_drew (gr_alloc _ _) | exact gr_alloc _ _)) hg5))
  have HK5 := Lib.hid hk5
  have HR := Lib.hid hR
  obtain ⟨v0, v1, v2, v3, v4, v5, v6, _, vl⟩ := ev_cells hV
  obtain ⟨b0, b1, b2, b3, b4, b5, b6, bf, bl⟩ := ev_cells hR
  clear hk5 hg5 hV hR
  go_wp2_with fail
  obtain ⟨W6, hW6⟩ : ∃ W6, W6 = set7 w5 w.heap.size (.int .i64 s.no) (.int .i64 k) (.int .i64 2) (.int .i64 s.wo) (.int .i64 0) (.int .i64 (wrap64 (s.r j + s.r l))) (.int .i64 0) := ⟨_, rfl⟩
  have hbk := set7_blk (.int .i64 s.no) (.int .i64 k) (.int .i64 2) (.int .i64 s.wo) (.int .i64 0) (.int .i64 (wrap64 (s.r j + s.r l))) (.int .i64 0) HR.out
  have hgr := set7_grown w5 w.heap.size (.int .i64 s.no) (.int .i64 k) (.int .i64 2) (.int .i64 s.wo) (.int .i64 0) (.int .i64 (wrap64 (s.r j + s.r l))) (.int .i64 0)
  rw [← hW6] at hbk hgr
  unfold set7 at hW6
  rw [← hW6]
  obtain ⟨d0, d1, d2, d3, d4, d5, d6, df, dl⟩ := ev_cells hbk
  clear b0 b1 b2 b3 b4 b5 b6 bf bl
  (try simp only [Exit.inBlock, Exit.then]); refine bodyPost_ret (by simp [results, Tryd.results19, go_sem, d0, d1, d2, d3, d4, d5, d6]; try rfl) rfl ?_
  exact ⟨rfl, H.out.past HK5.out rfl hgr (Nat.le_refl _), gr_N HG5.out hgr (Nat.le_refl _)⟩

set_option maxRecDepth 100000 in
set_option maxHeartbeats 2000000 in
theorem klocal_zero0 (p : Nat) (v : Value) (s : CoS) (k : Nat) (i : Nat) (b c : Int) (w : World) (h : Kc w p v s) (he : endB s.ps s.a = false) (ha : s.a = k) (_hk : k < 1000) (hx : atI s.ps s.a.toNat = ⟨10, (i : Nat), b, c⟩) (hi : i < 4) (hz : s.r i = 0) :
    Calls Tryd.prog 19 #[.pointer (some ⟨p, 0, none⟩)] w fun e w' => e = .returned (.tuple #[.agg #[.int .i64 s.no, .int .i64 k, .int .i64 10, .int .i64 s.wo, .int .i64 0, .int .i64 0, .int .i64 0], .bool true]) ∧ Kc w' p v { s with r := s.r, a := b, ov := endB s.ps (b) } ∧ w.grownBy w' (some p) := by
  have HZ := Lib.hid hz
  clear hz
  have H := Lib.hid h
  have HE := Lib.hid he
  have HX := Lib.hid hx
  have HA := Lib.hid ha
  clear h he hx ha
  go_enter Tryd.func19, Tryd.ntmps19
  go_wp2_with fail
  have hne := knext_ok p v s _ (H.out.ext (ext_alloc (.cells #[.int .i64 0, .int .i64 0, .int .i64 0, .int .i64 0, .int .i64 0, .int .i64 0, .int .i64 0] 42) (Below.refl _ w))) HE.out
  rw [HX.out] at hne
  refine hne.mono ?_
  clear hne
  rintro e w1 ⟨rfl, hb⟩
  go_upto_if 14 with (fail)
  obtain ⟨W2, hW2⟩ : ∃ W2, W2 = w1.alloc (.cells #[.int .i64 10, .int .i64 (i : Nat), .int .i64 b, .int .i64 c] 36) := ⟨_, rfl⟩
  have hbW : Below w1.heap.size w1 W2 := by rw [hW2]; exact ext_alloc _ (Below.refl _ _)
  have HB := Lib.hid (ext_trans (ext_alloc (.cells #[.int .i64 0, .int .i64 0, .int .i64 0, .int .i64 0, .int .i64 0, .int .i64 0, .int .i64 0] 42) (Below.refl _ w)) (ext_trans hb hbW))
  have hs1 : w.heap.size < w1.heap.size := by have := hb.size; simp at this; omega
  have HBX := Lib.hid ((hbW.block w.heap.size hs1).trans ((hb.block w.heap.size (by simp)).trans (alNew rfl)))
  have hxx : W2.heap[w1.heap.size]? = some (.cells #[.int .i64 10, .int .i64 (i : Nat), .int .i64 b, .int .i64 c] 36 (0, 0)) := by rw [hW2]; exact alNew rfl
  have HXX := Lib.hid hxx
  obtain ⟨q0, q1, q2, q3, ql⟩ := ins_cells (x := ⟨10, (i : Nat), b, c⟩) hxx
  dsimp only at q0 q1 q2 q3
  rw [← hW2]
  clear hb hbW hW2 hxx
  go_wp2_with fail
  clear q0 q1 q2 q3 ql
  have hev := kevent_any p v s ⟨10, (i : Nat), b, c⟩ W2 (H.out.ext HB.out)
  rw [HA.out] at hev
  refine hev.mono ?_
  clear hev
  rintro e w3 ⟨rfl, hb⟩
  have HB3 := Lib.hid (ext_trans HB.out hb)
  have HK3 := Lib.hid (H.out.ext HB3.out)
  have HBX3 := Lib.hid ((hb.block _ (lt_of HBX.out)).trans HBX.out)
  obtain ⟨q0, q1, q2, q3, ql⟩ := ins_cells (x := ⟨10, (i : Nat), b, c⟩) ((hb.block _ (lt_of HXX.out)).trans HXX.out)
  dsimp only at q0 q1 q2 q3
  have hpl := HK3.out.lt
  have hpf := HK3.out.free
  have k4 := HK3.out.cells.2.2.2.2.1
  have k5 := HK3.out.cells.2.2.2.2.2.1
  rw [HA.out] at k4
  clear hb
  have r1 := HK3.out.reg i hi
  rw [HZ.out] at r1
  go_wp2_with fail
  go_region
  go_wp2_with fail
  refine (turn_any p v s (b) _ (HK3.out.ext (by (first | exact ext_drew (ext_drew (ext_drew (ext_alloc _ (Below.refl _ _)))) | exact ext_drew (ext_drew (ext_alloc _ (Below.refl _ _))) | exact ext_drew (ext_alloc _ (Below.refl _ _)) | exact ext_alloc _ (Below.refl _ _))))).mono ?_
  rintro e w5 ⟨⟨r, rfl⟩, hk5, hg5⟩
  have hV : w5.heap[w3.heap.size]? = some (.cells #[.int .i64 s.no, .int .i64 k, .int .i64 10, .int .i64 s.wo, .int .i64 0, .int .i64 0, .int .i64 0] 42 (0, 0)) := (hg5.block w3.heap.size (by simp) (by have := HK3.out.lt; simp; omega)).trans (alNew rfl)
  have hR : w5.heap[w.heap.size]? = some (.cells #[.int .i64 0, .int .i64 0, .int .i64 0, .int .i64 0, .int .i64 0, .int .i64 0, .int .i64 0] 42 (0, 0)) := (hg5.block w.heap.size (by have := lt_of HBX3.out; simp; omega) (by have := H.out.lt; simp; omega)).trans (alOld HBX3.out)
  have HG5 := Lib.hid (gr_B HB3.out (gr_two (by first | exact gr_drew (gr_drew (gr_alloc _ _)) | exact gr_drew (gr_alloc _ _) | exact gr_alloc _ _) hg5))
  have HK5 := Lib.hid hk5
  have HR := Lib.hid hR
  obtain ⟨v0, v1, v2, v3, v4, v5, v6, _, vl⟩ := ev_cells hV
  obtain ⟨b0, b1, b2, b3, b4, b5, b6, bf, bl⟩ := ev_cells hR
  clear hk5 hg5 hV hR
  go_wp2_with fail
  obtain ⟨W6, hW6⟩ : ∃ W6, W6 = set7 w5 w.heap.size (.int .i64 s.no) (.int .i64 k) (.int .i64 10) (.int .i64 s.wo) (.int .i64 0) (.int .i64 0) (.int .i64 0) := ⟨_, rfl⟩
  have hbk := set7_blk (.int .i64 s.no) (.int .i64 k) (.int .i64 10) (.int .i64 s.wo) (.int .i64 0) (.int .i64 0) (.int .i64 0) HR.out
  have hgr := set7_grown w5 w.heap.size (.int .i64 s.no) (.int .i64 k) (.int .i64 10) (.int .i64 s.wo) (.int .i64 0) (.int .i64 0) (.int .i64 0)
  rw [← hW6] at hbk hgr
  unfold set7 at hW6
  rw [← hW6]
  obtain ⟨d0, d1, d2, d3, d4, d5, d6, df, dl⟩ := ev_cells hbk
  clear b0 b1 b2 b3 b4 b5 b6 bf bl
  (try simp only [Exit.inBlock, Exit.then]); refine bodyPost_ret (by simp [results, Tryd.results19, go_sem, d0, d1, d2, d3, d4, d5, d6]; try rfl) rfl ?_
  exact ⟨rfl, H.out.past HK5.out rfl hgr (Nat.le_refl _), gr_N HG5.out hgr (Nat.le_refl _)⟩

set_option maxRecDepth 100000 in
set_option maxHeartbeats 2000000 in
theorem klocal_zero1 (p : Nat) (v : Value) (s : CoS) (k : Nat) (i : Nat) (b c : Int) (w : World) (h : Kc w p v s) (he : endB s.ps s.a = false) (ha : s.a = k) (_hk : k < 1000) (hx : atI s.ps s.a.toNat = ⟨10, (i : Nat), b, c⟩) (hi : i < 4) (hz : s.r i ≠ 0) :
    Calls Tryd.prog 19 #[.pointer (some ⟨p, 0, none⟩)] w fun e w' => e = .returned (.tuple #[.agg #[.int .i64 s.no, .int .i64 k, .int .i64 10, .int .i64 s.wo, .int .i64 0, .int .i64 (s.r i), .int .i64 0], .bool true]) ∧ Kc w' p v { s with r := s.r, a := (k : Int) + 1, ov := endB s.ps ((k : Int) + 1) } ∧ w.grownBy w' (some p) := by
  have H := Lib.hid h
  have HE := Lib.hid he
  have HX := Lib.hid hx
  have HA := Lib.hid ha
  clear h he hx ha
  go_enter Tryd.func19, Tryd.ntmps19
  go_wp2_with fail
  have hne := knext_ok p v s _ (H.out.ext (ext_alloc (.cells #[.int .i64 0, .int .i64 0, .int .i64 0, .int .i64 0, .int .i64 0, .int .i64 0, .int .i64 0] 42) (Below.refl _ w))) HE.out
  rw [HX.out] at hne
  refine hne.mono ?_
  clear hne
  rintro e w1 ⟨rfl, hb⟩
  go_upto_if 14 with (fail)
  obtain ⟨W2, hW2⟩ : ∃ W2, W2 = w1.alloc (.cells #[.int .i64 10, .int .i64 (i : Nat), .int .i64 b, .int .i64 c] 36) := ⟨_, rfl⟩
  have hbW : Below w1.heap.size w1 W2 := by rw [hW2]; exact ext_alloc _ (Below.refl _ _)
  have HB := Lib.hid (ext_trans (ext_alloc (.cells #[.int .i64 0, .int .i64 0, .int .i64 0, .int .i64 0, .int .i64 0, .int .i64 0, .int .i64 0] 42) (Below.refl _ w)) (ext_trans hb hbW))
  have hs1 : w.heap.size < w1.heap.size := by have := hb.size; simp at this; omega
  have HBX := Lib.hid ((hbW.block w.heap.size hs1).trans ((hb.block w.heap.size (by simp)).trans (alNew rfl)))
  have hxx : W2.heap[w1.heap.size]? = some (.cells #[.int .i64 10, .int .i64 (i : Nat), .int .i64 b, .int .i64 c] 36 (0, 0)) := by rw [hW2]; exact alNew rfl
  have HXX := Lib.hid hxx
  obtain ⟨q0, q1, q2, q3, ql⟩ := ins_cells (x := ⟨10, (i : Nat), b, c⟩) hxx
  dsimp only at q0 q1 q2 q3
  rw [← hW2]
  clear hb hbW hW2 hxx
  go_wp2_with fail
  clear q0 q1 q2 q3 ql
  have hev := kevent_any p v s ⟨10, (i : Nat), b, c⟩ W2 (H.out.ext HB.out)
  rw [HA.out] at hev
  refine hev.mono ?_
  clear hev
  rintro e w3 ⟨rfl, hb⟩
  have HB3 := Lib.hid (ext_trans HB.out hb)
  have HK3 := Lib.hid (H.out.ext HB3.out)
  have HBX3 := Lib.hid ((hb.block _ (lt_of HBX.out)).trans HBX.out)
  obtain ⟨q0, q1, q2, q3, ql⟩ := ins_cells (x := ⟨10, (i : Nat), b, c⟩) ((hb.block _ (lt_of HXX.out)).trans HXX.out)
  dsimp only at q0 q1 q2 q3
  have hpl := HK3.out.lt
  have hpf := HK3.out.free
  have k4 := HK3.out.cells.2.2.2.2.1
  have k5 := HK3.out.cells.2.2.2.2.2.1
  rw [HA.out] at k4
  clear hb
  have r1 := HK3.out.reg i hi
  have hz0 : (s.r i == 0) = false := by simpa using hz
  go_wp2_with fail
  go_region
  go_wp2_with fail
  refine (turn_any p v s ((k : Int) + 1) _ (HK3.out.ext (by (first | exact ext_drew (ext_drew (ext_drew (ext_alloc _ (Below.refl _ _)))) | exact ext_drew (ext_drew (ext_alloc _ (Below.refl _ _))) | exact ext_drew (ext_alloc _ (Below.refl _ _)) | exact ext_alloc _ (Below.refl _ _))))).mono ?_
  rintro e w5 ⟨⟨r, rfl⟩, hk5, hg5⟩
  have hV : w5.heap[w3.heap.size]? = some (.cells #[.int .i64 s.no, .int .i64 k, .int .i64 10, .int .i64 s.wo, .int .i64 0, .int .i64 (s.r i), .int .i64 0] 42 (0, 0)) := (hg5.block w3.heap.size (by simp) (by have := HK3.out.lt; simp; omega)).trans (alNew rfl)
  have hR : w5.heap[w.heap.size]? = some (.cells #[.int .i64 0, .int .i64 0, .int .i64 0, .int .i64 0, .int .i64 0, .int .i64 0, .int .i64 0] 42 (0, 0)) := (hg5.block w.heap.size (by have := lt_of HBX3.out; simp; omega) (by have := H.out.lt; simp; omega)).trans (alOld HBX3.out)
  have HG5 := Lib.hid (gr_B HB3.out (gr_two (by first | exact gr_drew (gr_drew (gr_alloc _ _)) | exact gr_drew (gr_alloc _ _) | exact gr_alloc _ _) hg5))
  have HK5 := Lib.hid hk5
  have HR := Lib.hid hR
  obtain ⟨v0, v1, v2, v3, v4, v5, v6, _, vl⟩ := ev_cells hV
  obtain ⟨b0, b1, b2, b3, b4, b5, b6, bf, bl⟩ := ev_cells hR
  clear hk5 hg5 hV hR
  go_wp2_with fail
  obtain ⟨W6, hW6⟩ : ∃ W6, W6 = set7 w5 w.heap.size (.int .i64 s.no) (.int .i64 k) (.int .i64 10) (.int .i64 s.wo) (.int .i64 0) (.int .i64 (s.r i)) (.int .i64 0) := ⟨_, rfl⟩
  have hbk := set7_blk (.int .i64 s.no) (.int .i64 k) (.int .i64 10) (.int .i64 s.wo) (.int .i64 0) (.int .i64 (s.r i)) (.int .i64 0) HR.out
  have hgr := set7_grown w5 w.heap.size (.int .i64 s.no) (.int .i64 k) (.int .i64 10) (.int .i64 s.wo) (.int .i64 0) (.int .i64 (s.r i)) (.int .i64 0)
  rw [← hW6] at hbk hgr
  unfold set7 at hW6
  rw [← hW6]
  obtain ⟨d0, d1, d2, d3, d4, d5, d6, df, dl⟩ := ev_cells hbk
  clear b0 b1 b2 b3 b4 b5 b6 bf bl
  (try simp only [Exit.inBlock, Exit.then]); refine bodyPost_ret (by simp [results, Tryd.results19, go_sem, d0, d1, d2, d3, d4, d5, d6]; try rfl) rfl ?_
  exact ⟨rfl, H.out.past HK5.out rfl hgr (Nat.le_refl _), gr_N HG5.out hgr (Nat.le_refl _)⟩

end Go.Proofs.YtkobeajbiendlaaDoor
