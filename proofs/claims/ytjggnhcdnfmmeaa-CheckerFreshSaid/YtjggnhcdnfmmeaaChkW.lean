/- What this text holds: what a word tells a checker's walk. No condition. -/
import Derived.Test.YtjggnhcdnfmmeaaChkB
import Derived.Deep.CutRange
namespace Go.Proofs.Ytjggnhcdnfmmeaa
open Go.RowKit

theorem set2_cell {w : World} {b i j : Nat} {u v : Value} {a : Addr} (h : a.block ≠ b) : ((w.setCell ⟨b, i, none⟩ u).setCell ⟨b, j, none⟩ v).cell? a = w.cell? a := by
  rw [World.cell?_setCell_other _ _ _ _ (fun e => h (by have := congrArg Addr.block e; simpa using this.symm)), World.cell?_setCell_other _ _ _ _ (fun e => h (by have := congrArg Addr.block e; simpa using this.symm))]
theorem un_drew {w w' : World} (h : Below w.drew.heap.size w.drew w') : Below w.heap.size w w' := ⟨h.os, h.tape, h.output, h.size, h.block⟩

theorem cwalked_nil (x y : Int) (w : World) : Calls Try.prog 19 #[.pointer none, .int .i64 x, .int .i64 y] w fun e w' => e = .returned (.tuple #[.int .i64 0, .bool false, .int .i64 2]) ∧ Below w.heap.size w w' := by
  go_enter Try.func19, Try.ntmps19
  go_wp2
  go_ret3
  exact ⟨rfl, Below.refl _ _⟩
theorem cwalked_state (p : Nat) (v : Value) (s : CkS) (x y : Int) (w : World) (h : Ck w p v s) (hw : s.wk = false) : Calls Try.prog 19 #[.pointer (some ⟨p, 0, none⟩), .int .i64 x, .int .i64 y] w fun e w' => e = .returned (.tuple #[.int .i64 0, .bool false, .int .i64 16]) ∧ Below w.heap.size w w' := by
  have c0 := h.cells.1
  have hl := h.lt
  rw [hw] at c0
  clear h hw
  go_enter Try.func19, Try.ntmps19
  go_wp2
  go_ret3
  exact ⟨rfl, Below.refl _ _⟩
theorem cwalked_arg (p : Nat) (v : Value) (s : CkS) (x y : Int) (w : World) (h : Ck w p v s) (hw : s.wk = true) (hx : x ≠ s.a) : Calls Try.prog 19 #[.pointer (some ⟨p, 0, none⟩), .int .i64 x, .int .i64 y] w fun e w' => e = .returned (.tuple #[.int .i64 0, .bool false, .int .i64 1]) ∧ Below w.heap.size w w' := by
  have c0 := h.cells.1
  have c2 := h.cells.2.2.1
  have hl := h.lt
  have e0 : (x != s.a) = true := by simpa using hx
  rw [hw] at c0
  clear h hw hx
  go_enter Try.func19, Try.ntmps19
  go_wp2
  go_ret3
  exact ⟨rfl, Below.refl _ _⟩

set_option maxHeartbeats 1000000 in
theorem cwalked_stale (p : Nat) (v : Value) (s : CkS) (y : Int) (w : World) (h : Ck w p v s) (hw : s.wk = true) (hs : s.st = true) (h0 : 0 ≤ s.g) (h1 : s.g < 16) :
    Calls Try.prog 19 #[.pointer (some ⟨p, 0, none⟩), .int .i64 s.a, .int .i64 y] w fun e w' => e = .returned (.tuple #[.int .i64 (s.g / 4), .bool false, .int .i64 0]) ∧ Ck w' p v { s with a := s.g / 4, st := false } ∧ w.grownBy w' (some p) := by
  obtain ⟨c0, c1, c2, c3, _⟩ := h.cells
  have hf := h.free
  have hl := h.lt
  have H := Lib.hid h
  rw [hw] at c0
  rw [hs] at c3
  clear h hw hs
  obtain ⟨sk, sg, sa, ss, se, sr, ks⟩ := s
  dsimp only at *
  go_enter Try.func19, Try.ntmps19
  go_wp2_with fail
  refine (first_ok sg _ h0 h1).mono ?_
  rintro e w2 ⟨rfl, hw⟩
  subst hw
  go_wp2_with fail
  go_ret3
  have s0 := Joins.block_setCell (i := 3) H.out.blk (.bool false)
  have s1 := Joins.block_setCell (i := 2) s0 (.int .i64 (sg / 4))
  refine ⟨rfl, H.out.put (s' := ⟨sk, sg, sg / 4, false, se, sr, ks⟩) rfl (by simpa using s1) (fun k hk => (Below.heap_setCell _ _ _ _ hk).trans (Below.heap_setCell _ _ _ _ hk)), ⟨rfl, rfl, rfl, by simp, fun k _ hk => (Below.heap_setCell _ _ _ _ (fun e => hk (by rw [e]))).trans (Below.heap_setCell _ _ _ _ (fun e => hk (by rw [e])))⟩⟩

set_option maxRecDepth 100000 in
set_option maxHeartbeats 2000000 in
theorem cwalked_err (p : Nat) (v : Value) (s : CkS) (y : Int) (w : World) (h : Ck w p v s) (_hw : s.wk = true) (_hs : s.st = false) (_h0 : 0 ≤ s.g) (_h1 : s.g < 16)
    (_hN : ∀ w, Calls Try.prog 44 #[.int .i64 s.gr, .int .i64 s.g, .int .i64 s.a, .int .i64 y] w fun e w' => e = .returned (.tuple #[.int .i64 0, .agg #[.int .i64 0, .bool false], .bool false, .int .i64 14]) ∧ Below w.heap.size w w') :
    Calls Try.prog 19 #[.pointer (some ⟨p, 0, none⟩), .int .i64 s.a, .int .i64 y] w fun e w' => e = .returned (.tuple #[.int .i64 0, .bool false, .int .i64 14]) ∧ Below w.heap.size w w' := by
  obtain ⟨c0, c1, c2, c3, c4, c5, c6⟩ := h.cells
  have hf := h.free
  have hl := h.lt
  have H := Lib.hid h
  have HN := Lib.hid _hN
  rw [_hw] at c0
  rw [_hs] at c3
  clear h _hw _hs _hN
  obtain ⟨sk, sg, sa, ss, se, sr, ks⟩ := s
  dsimp only at *
  go_enter Try.func19, Try.ntmps19
  go_wp2_with fail
  refine (first_ok sg _ _h0 _h1).mono ?_
  rintro e w2 ⟨rfl, hw⟩
  subst hw
  go_wp2_with fail
  go_cut [6, 7, 8, 10] from 53 to 69 (fun s6 s7 s8 s10 wc => ∃ bx : Nat, s6 = .int .i64 0 ∧ s7 = .bool false ∧ s8 = .int .i64 14 ∧ s10 = .pointer (some ⟨bx, 0, none⟩) ∧ Hid (wc.heap[bx]? = some (.cells #[.int .i64 0, .bool false] 55 (0, 0)) ∧ w2.heap.size ≤ bx ∧ Below w2.heap.size w2 wc))
  case first =>
    have QQ := And.intro c5 c1
    have hl1 := hl
    go_region_held3 (fun w' => w'.cell? ⟨p, 5, none⟩ = some (.int .i64 sr) ∧ w'.cell? ⟨p, 1, none⟩ = some (.int .i64 sg))
      (first | exact QQ | exact ⟨(set2_cell (by simp; omega)).trans QQ.1, (set2_cell (by simp; omega)).trans QQ.2⟩ | exact ⟨(((Below.refl _ _).alloc (Nat.le_refl _) _).cell (p := ⟨p, 5, none⟩) hl1).trans QQ.1, (((Below.refl _ _).alloc (Nat.le_refl _) _).cell (p := ⟨p, 1, none⟩) hl1).trans QQ.2⟩)
      (first
        | (go_at_call 44; have hq := HN.out w2.drew; refine hq.mono ?_; clear hq; rintro e w1 ⟨rfl, hb⟩; have HB := Lib.hid (un_drew hb); have hl1 : p < w1.heap.size := Nat.lt_of_lt_of_le hl HB.out.size; have QQ := And.intro ((HB.out.cell (p := ⟨p, 5, none⟩) hl).trans c5) ((HB.out.cell (p := ⟨p, 1, none⟩) hl).trans c1); clear hb)
        | (go_at_call 44; have hq := HN.out (w2.alloc (.cells #[.int .i64 0, .bool false] 55)).drew; refine hq.mono ?_; clear hq; rintro e w1 ⟨rfl, hb⟩; have HB : Hid (Below w2.heap.size w2 w1) := Lib.hid (ext_next hb (ext_drew (ext_alloc _ (Below.refl _ _)))); have hbx : w1.heap[w2.heap.size]? = some (.cells #[.int .i64 0, .bool false] 55 (0, 0)) := (hb.block w2.heap.size (by simp)).trans (alNew rfl); have x0 : w1.cell? ⟨w2.heap.size, 0, none⟩ = some (.int .i64 0) := (by simp [World.cell?, hbx]); have x1 : w1.cell? ⟨w2.heap.size, 1, none⟩ = some (.bool false) := (by simp [World.cell?, hbx]); have xf : ∀ i, w1.frozen? ⟨w2.heap.size, i, none⟩ = false := fun i => (by simp [World.frozen?, hbx]); have xl := lt_of hbx; have HX := Lib.hid hbx; have hl1 : p < w1.heap.size := Nat.lt_of_lt_of_le hl HB.out.size; have QQ := And.intro ((HB.out.cell (p := ⟨p, 5, none⟩) hl).trans c5) ((HB.out.cell (p := ⟨p, 1, none⟩) hl).trans c1); clear hb hbx))
    all_goals (try go_wp2_with fail)
    all_goals go_meet
    all_goals first
      | exact ⟨_, rfl, rfl, rfl, rfl, Lib.hid ⟨alNew rfl, HB.out.size, ext_alloc _ HB.out⟩⟩
      | exact ⟨_, rfl, rfl, rfl, rfl, Lib.hid ⟨by simpa using Joins.block_setCell (i := 1) (Joins.block_setCell (i := 0) HX.out (.int .i64 0)) (.bool false), Nat.le_refl _, (HB.out.setCell (p := ⟨w2.heap.size, 0, none⟩) (Nat.le_refl _) _).setCell (p := ⟨w2.heap.size, 1, none⟩) (Nat.le_refl _) _⟩⟩
  case rest =>
    obtain ⟨bx, rfl, rfl, rfl, rfl, HC⟩ := hcut
    have x0 : wc.cell? ⟨bx, 0, none⟩ = some (.int .i64 0) := by have := HC.out.1; simp [World.cell?, this]
    have x1 : wc.cell? ⟨bx, 1, none⟩ = some (.bool false) := by have := HC.out.1; simp [World.cell?, this]
    have xl := lt_of HC.out.1
    have HB := Lib.hid HC.out.2.2
    have hl1 : p < wc.heap.size := Nat.lt_of_lt_of_le hl HB.out.size
    go_wp2_with fail
    go_ret3
    exact ⟨rfl, HB.out⟩
set_option maxRecDepth 100000 in
set_option maxHeartbeats 2000000 in
theorem cwalked_more (p : Nat) (v : Value) (s : CkS) (y : Int) (n : Int) (w : World) (h : Ck w p v s) (_hw : s.wk = true) (_hs : s.st = false) (_h0 : 0 ≤ s.g) (_h1 : s.g < 16)
    (_hN : ∀ w, Calls Try.prog 44 #[.int .i64 s.gr, .int .i64 s.g, .int .i64 s.a, .int .i64 y] w fun e w' => e = .returned (.tuple #[.int .i64 n, .agg #[.int .i64 0, .bool false], .bool false, .int .i64 0]) ∧ Below w.heap.size w w') :
    Calls Try.prog 19 #[.pointer (some ⟨p, 0, none⟩), .int .i64 s.a, .int .i64 y] w fun e w' => e = .returned (.tuple #[.int .i64 n, .bool false, .int .i64 0]) ∧ Ck w' p v { s with a := n } ∧ w.grownBy w' (some p) := by
  obtain ⟨c0, c1, c2, c3, c4, c5, c6⟩ := h.cells
  have hf := h.free
  have hl := h.lt
  have H := Lib.hid h
  have HN := Lib.hid _hN
  rw [_hw] at c0
  rw [_hs] at c3
  clear h _hw _hs _hN
  obtain ⟨sk, sg, sa, ss, se, sr, ks⟩ := s
  dsimp only at *
  go_enter Try.func19, Try.ntmps19
  go_wp2_with fail
  refine (first_ok sg _ _h0 _h1).mono ?_
  rintro e w2 ⟨rfl, hw⟩
  subst hw
  go_wp2_with fail
  go_cut [6, 7, 8, 10] from 53 to 69 (fun s6 s7 s8 s10 wc => ∃ bx : Nat, s6 = .int .i64 n ∧ s7 = .bool false ∧ s8 = .int .i64 0 ∧ s10 = .pointer (some ⟨bx, 0, none⟩) ∧ Hid (wc.heap[bx]? = some (.cells #[.int .i64 0, .bool false] 55 (0, 0)) ∧ w2.heap.size ≤ bx ∧ Below w2.heap.size w2 wc))
  case first =>
    have QQ := And.intro c5 c1
    have hl1 := hl
    go_region_held3 (fun w' => w'.cell? ⟨p, 5, none⟩ = some (.int .i64 sr) ∧ w'.cell? ⟨p, 1, none⟩ = some (.int .i64 sg))
      (first | exact QQ | exact ⟨(set2_cell (by simp; omega)).trans QQ.1, (set2_cell (by simp; omega)).trans QQ.2⟩ | exact ⟨(((Below.refl _ _).alloc (Nat.le_refl _) _).cell (p := ⟨p, 5, none⟩) hl1).trans QQ.1, (((Below.refl _ _).alloc (Nat.le_refl _) _).cell (p := ⟨p, 1, none⟩) hl1).trans QQ.2⟩)
      (first
        | (go_at_call 44; have hq := HN.out w2.drew; refine hq.mono ?_; clear hq; rintro e w1 ⟨rfl, hb⟩; have HB := Lib.hid (un_drew hb); have hl1 : p < w1.heap.size := Nat.lt_of_lt_of_le hl HB.out.size; have QQ := And.intro ((HB.out.cell (p := ⟨p, 5, none⟩) hl).trans c5) ((HB.out.cell (p := ⟨p, 1, none⟩) hl).trans c1); clear hb)
        | (go_at_call 44; have hq := HN.out (w2.alloc (.cells #[.int .i64 0, .bool false] 55)).drew; refine hq.mono ?_; clear hq; rintro e w1 ⟨rfl, hb⟩; have HB : Hid (Below w2.heap.size w2 w1) := Lib.hid (ext_next hb (ext_drew (ext_alloc _ (Below.refl _ _)))); have hbx : w1.heap[w2.heap.size]? = some (.cells #[.int .i64 0, .bool false] 55 (0, 0)) := (hb.block w2.heap.size (by simp)).trans (alNew rfl); have x0 : w1.cell? ⟨w2.heap.size, 0, none⟩ = some (.int .i64 0) := (by simp [World.cell?, hbx]); have x1 : w1.cell? ⟨w2.heap.size, 1, none⟩ = some (.bool false) := (by simp [World.cell?, hbx]); have xf : ∀ i, w1.frozen? ⟨w2.heap.size, i, none⟩ = false := fun i => (by simp [World.frozen?, hbx]); have xl := lt_of hbx; have HX := Lib.hid hbx; have hl1 : p < w1.heap.size := Nat.lt_of_lt_of_le hl HB.out.size; have QQ := And.intro ((HB.out.cell (p := ⟨p, 5, none⟩) hl).trans c5) ((HB.out.cell (p := ⟨p, 1, none⟩) hl).trans c1); clear hb hbx))
    all_goals (try go_wp2_with fail)
    all_goals go_meet
    all_goals first
      | exact ⟨_, rfl, rfl, rfl, rfl, Lib.hid ⟨alNew rfl, HB.out.size, ext_alloc _ HB.out⟩⟩
      | exact ⟨_, rfl, rfl, rfl, rfl, Lib.hid ⟨by simpa using Joins.block_setCell (i := 1) (Joins.block_setCell (i := 0) HX.out (.int .i64 0)) (.bool false), Nat.le_refl _, (HB.out.setCell (p := ⟨w2.heap.size, 0, none⟩) (Nat.le_refl _) _).setCell (p := ⟨w2.heap.size, 1, none⟩) (Nat.le_refl _) _⟩⟩
  case rest =>
    obtain ⟨bx, rfl, rfl, rfl, rfl, HC⟩ := hcut
    have x0 : wc.cell? ⟨bx, 0, none⟩ = some (.int .i64 0) := by have := HC.out.1; simp [World.cell?, this]
    have x1 : wc.cell? ⟨bx, 1, none⟩ = some (.bool false) := by have := HC.out.1; simp [World.cell?, this]
    have xl := lt_of HC.out.1
    have HB := Lib.hid HC.out.2.2
    have hl1 : p < wc.heap.size := Nat.lt_of_lt_of_le hl HB.out.size
    have hf2 := (HB.out.frozen (p := ⟨p, 2, none⟩) hl).trans (hf 2)
    have c2' := (HB.out.cell (p := ⟨p, 2, none⟩) hl).trans c2
    go_wp2_with fail
    go_ret3
    have H1 := H.out.ext HB.out
    have s1 := Joins.block_setCell (i := 2) H1.blk (.int .i64 n)
    exact ⟨rfl, H1.put (s' := ⟨sk, sg, n, ss, se, sr, ks⟩) rfl (by simpa using s1) (fun k hk => Below.heap_setCell _ _ _ _ hk), grown_trans HB.out ⟨rfl, rfl, rfl, by simp, fun k _ hk => Below.heap_setCell _ _ _ _ (fun e => hk (by rw [e]))⟩⟩
set_option maxRecDepth 100000 in
set_option maxHeartbeats 2000000 in
theorem cwalked_locked (p : Nat) (v : Value) (s : CkS) (y : Int) (o : Int) (w : World) (h : Ck w p v s) (_hw : s.wk = true) (_hs : s.st = false) (_h0 : 0 ≤ s.g) (_h1 : s.g < 16)
    (_hN : ∀ w, Calls Try.prog 44 #[.int .i64 s.gr, .int .i64 s.g, .int .i64 s.a, .int .i64 y] w fun e w' => e = .returned (.tuple #[.int .i64 0, .agg #[.int .i64 o, .bool true], .bool true, .int .i64 0]) ∧ Below w.heap.size w w') :
    Calls Try.prog 19 #[.pointer (some ⟨p, 0, none⟩), .int .i64 s.a, .int .i64 y] w fun e w' => e = .returned (.tuple #[.int .i64 (s.g / 4), .bool false, .int .i64 0]) ∧ Ck w' p v { s with a := s.g / 4 } ∧ w.grownBy w' (some p) := by
  obtain ⟨c0, c1, c2, c3, c4, c5, c6⟩ := h.cells
  have hf := h.free
  have hl := h.lt
  have H := Lib.hid h
  have HN := Lib.hid _hN
  rw [_hw] at c0
  rw [_hs] at c3
  clear h _hw _hs _hN
  obtain ⟨sk, sg, sa, ss, se, sr, ks⟩ := s
  dsimp only at *
  go_enter Try.func19, Try.ntmps19
  go_wp2_with fail
  refine (first_ok sg _ _h0 _h1).mono ?_
  rintro e w2 ⟨rfl, hw⟩
  subst hw
  go_wp2_with fail
  go_cut [6, 7, 8, 10] from 53 to 69 (fun s6 s7 s8 s10 wc => ∃ bx : Nat, s6 = .int .i64 0 ∧ s7 = .bool true ∧ s8 = .int .i64 0 ∧ s10 = .pointer (some ⟨bx, 0, none⟩) ∧ Hid (wc.heap[bx]? = some (.cells #[.int .i64 o, .bool true] 55 (0, 0)) ∧ w2.heap.size ≤ bx ∧ Below w2.heap.size w2 wc))
  case first =>
    have QQ := And.intro c5 c1
    have hl1 := hl
    go_region_held3 (fun w' => w'.cell? ⟨p, 5, none⟩ = some (.int .i64 sr) ∧ w'.cell? ⟨p, 1, none⟩ = some (.int .i64 sg))
      (first | exact QQ | exact ⟨(set2_cell (by simp; omega)).trans QQ.1, (set2_cell (by simp; omega)).trans QQ.2⟩ | exact ⟨(((Below.refl _ _).alloc (Nat.le_refl _) _).cell (p := ⟨p, 5, none⟩) hl1).trans QQ.1, (((Below.refl _ _).alloc (Nat.le_refl _) _).cell (p := ⟨p, 1, none⟩) hl1).trans QQ.2⟩)
      (first
        | (go_at_call 44; have hq := HN.out w2.drew; refine hq.mono ?_; clear hq; rintro e w1 ⟨rfl, hb⟩; have HB := Lib.hid (un_drew hb); have hl1 : p < w1.heap.size := Nat.lt_of_lt_of_le hl HB.out.size; have QQ := And.intro ((HB.out.cell (p := ⟨p, 5, none⟩) hl).trans c5) ((HB.out.cell (p := ⟨p, 1, none⟩) hl).trans c1); clear hb)
        | (go_at_call 44; have hq := HN.out (w2.alloc (.cells #[.int .i64 0, .bool false] 55)).drew; refine hq.mono ?_; clear hq; rintro e w1 ⟨rfl, hb⟩; have HB : Hid (Below w2.heap.size w2 w1) := Lib.hid (ext_next hb (ext_drew (ext_alloc _ (Below.refl _ _)))); have hbx : w1.heap[w2.heap.size]? = some (.cells #[.int .i64 0, .bool false] 55 (0, 0)) := (hb.block w2.heap.size (by simp)).trans (alNew rfl); have x0 : w1.cell? ⟨w2.heap.size, 0, none⟩ = some (.int .i64 0) := (by simp [World.cell?, hbx]); have x1 : w1.cell? ⟨w2.heap.size, 1, none⟩ = some (.bool false) := (by simp [World.cell?, hbx]); have xf : ∀ i, w1.frozen? ⟨w2.heap.size, i, none⟩ = false := fun i => (by simp [World.frozen?, hbx]); have xl := lt_of hbx; have HX := Lib.hid hbx; have hl1 : p < w1.heap.size := Nat.lt_of_lt_of_le hl HB.out.size; have QQ := And.intro ((HB.out.cell (p := ⟨p, 5, none⟩) hl).trans c5) ((HB.out.cell (p := ⟨p, 1, none⟩) hl).trans c1); clear hb hbx))
    all_goals (try go_wp2_with fail)
    all_goals go_meet
    all_goals first
      | exact ⟨_, rfl, rfl, rfl, rfl, Lib.hid ⟨alNew rfl, HB.out.size, ext_alloc _ HB.out⟩⟩
      | exact ⟨_, rfl, rfl, rfl, rfl, Lib.hid ⟨by simpa using Joins.block_setCell (i := 1) (Joins.block_setCell (i := 0) HX.out (.int .i64 o)) (.bool true), Nat.le_refl _, (HB.out.setCell (p := ⟨w2.heap.size, 0, none⟩) (Nat.le_refl _) _).setCell (p := ⟨w2.heap.size, 1, none⟩) (Nat.le_refl _) _⟩⟩
  case rest =>
    obtain ⟨bx, rfl, rfl, rfl, rfl, HC⟩ := hcut
    have x0 : wc.cell? ⟨bx, 0, none⟩ = some (.int .i64 o) := by have := HC.out.1; simp [World.cell?, this]
    have x1 : wc.cell? ⟨bx, 1, none⟩ = some (.bool true) := by have := HC.out.1; simp [World.cell?, this]
    have xl := lt_of HC.out.1
    have HB := Lib.hid HC.out.2.2
    have hl1 : p < wc.heap.size := Nat.lt_of_lt_of_le hl HB.out.size
    have hf2 := (HB.out.frozen (p := ⟨p, 2, none⟩) hl).trans (hf 2)
    have c2' := (HB.out.cell (p := ⟨p, 2, none⟩) hl).trans c2
    go_wp2_with fail
    go_ret3
    have H1 := H.out.ext HB.out
    have s1 := Joins.block_setCell (i := 2) H1.blk (.int .i64 (sg / 4))
    exact ⟨rfl, H1.put (s' := ⟨sk, sg, sg / 4, ss, se, sr, ks⟩) rfl (by simpa using s1) (fun k hk => Below.heap_setCell _ _ _ _ hk), grown_trans HB.out ⟨rfl, rfl, rfl, by simp, fun k _ hk => Below.heap_setCell _ _ _ _ (fun e => hk (by rw [e]))⟩⟩

end Go.Proofs.Ytjggnhcdnfmmeaa
