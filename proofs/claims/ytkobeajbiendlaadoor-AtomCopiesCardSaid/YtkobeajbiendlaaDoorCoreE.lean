/- What this text holds: what a core asks, and is told. No condition. -/
import Derived.Test.YtkobeajbiendlaaDoorCoreD
namespace Go.Proofs.YtkobeajbiendlaaDoor
open Go.RowKit

theorem memory_any (o : Int) (w : World) : Calls Tryd.prog 50 #[.int .i64 o] w fun e w' => e = .returned (.bool (o == 3 || o == 4 || o == 5)) ∧ w' = w := by
  by_cases h3 : o = 3
  · subst h3
    go_enter Tryd.func50, Tryd.ntmps50
    go_wp2
    go_ret
    exact ⟨rfl, rfl⟩
  have e3 : (o == 3) = false := by simpa using h3
  by_cases h4 : o = 4
  · subst h4
    go_enter Tryd.func50, Tryd.ntmps50
    go_wp2
    go_ret
    exact ⟨rfl, rfl⟩
  have e4 : (o == 4) = false := by simpa using h4
  go_enter Tryd.func50, Tryd.ntmps50
  go_wp2
  go_ret
  exact ⟨ret_bool (by simp [e3, e4]), rfl⟩

set_option maxRecDepth 100000 in
set_option maxHeartbeats 2000000 in
theorem klocal_no3 (p : Nat) (v : Value) (s : CoS) (k : Nat) (a b c : Int) (w : World) (h : Kc w p v s) (he : endB s.ps s.a = false) (ha : s.a = k) (_hk : k < 1000) (hx : atI s.ps s.a.toNat = ⟨3, a, b, c⟩) :
    Calls Tryd.prog 19 #[.pointer (some ⟨p, 0, none⟩)] w fun e w' => e = .returned (.tuple #[.agg #[.int .i64 0, .int .i64 0, .int .i64 0, .int .i64 0, .int .i64 0, .int .i64 0, .int .i64 0], .bool false]) ∧ Below w.heap.size w w' := by
  have H := Lib.hid h
  have HE := Lib.hid he
  have HX := Lib.hid hx
  have HA := Lib.hid ha
  clear h he hx ha
  go_enter Tryd.func19, Tryd.ntmps19
  go_wp2_with fail
  have hne := knext_ok p v s _ (H.out.ext (ext_alloc (.cells #[.int .i64 0, .int .i64 0, .int .i64 0, .int .i64 0, .int .i64 0, .int .i64 0, .int .i64 0] 42) (Below.refl _ w))) HE.out
  rw [HX.out] at hne
  refine hne.mono ?_
  clear hne
  rintro e w1 ⟨rfl, hb⟩
  go_upto_if 14 with (fail)
  obtain ⟨W2, hW2⟩ : ∃ W2, W2 = w1.alloc (.cells #[.int .i64 3, .int .i64 a, .int .i64 b, .int .i64 c] 36) := ⟨_, rfl⟩
  have hbW : Below w1.heap.size w1 W2 := by rw [hW2]; exact ext_alloc _ (Below.refl _ _)
  have HB := Lib.hid (ext_trans (ext_alloc (.cells #[.int .i64 0, .int .i64 0, .int .i64 0, .int .i64 0, .int .i64 0, .int .i64 0, .int .i64 0] 42) (Below.refl _ w)) (ext_trans hb hbW))
  have hs1 : w.heap.size < w1.heap.size := by have := hb.size; simp at this; omega
  have HBX := Lib.hid ((hbW.block w.heap.size hs1).trans ((hb.block w.heap.size (by simp)).trans (alNew rfl)))
  have hxx : W2.heap[w1.heap.size]? = some (.cells #[.int .i64 3, .int .i64 a, .int .i64 b, .int .i64 c] 36 (0, 0)) := by rw [hW2]; exact alNew rfl
  have HXX := Lib.hid hxx
  obtain ⟨q0, q1, q2, q3, ql⟩ := ins_cells (x := ⟨3, a, b, c⟩) hxx
  dsimp only at q0 q1 q2 q3
  rw [← hW2]
  clear hb hbW hW2 hxx
  go_wp2_with fail
  clear q0 q1 q2 q3 ql
  have hev := kevent_any p v s ⟨3, a, b, c⟩ W2 (H.out.ext HB.out)
  rw [HA.out] at hev
  refine hev.mono ?_
  clear hev
  rintro e w3 ⟨rfl, hb⟩
  have HB3 := Lib.hid (ext_trans HB.out hb)
  have HK3 := Lib.hid (H.out.ext HB3.out)
  have HBX3 := Lib.hid ((hb.block _ (lt_of HBX.out)).trans HBX.out)
  obtain ⟨q0, q1, q2, q3, ql⟩ := ins_cells (x := ⟨3, a, b, c⟩) ((hb.block _ (lt_of HXX.out)).trans HXX.out)
  dsimp only at q0 q1 q2 q3
  have hpl := HK3.out.lt
  have hpf := HK3.out.free
  have k4 := HK3.out.cells.2.2.2.2.1
  have k5 := HK3.out.cells.2.2.2.2.2.1
  rw [HA.out] at k4
  clear hb
  obtain ⟨b0, b1, b2, b3, b4, b5, b6, bf, bl⟩ := ev_cells HBX3.out
  go_wp2_with fail
  obtain ⟨W6, hW6⟩ : ∃ W6, W6 = (set7 w3 w.heap.size (.int .i64 0) (.int .i64 0) (.int .i64 0) (.int .i64 0) (.int .i64 0) (.int .i64 0) (.int .i64 0)).alloc (.cells #[.int .i64 s.no, .int .i64 k, .int .i64 3, .int .i64 s.wo, .int .i64 0, .int .i64 0, .int .i64 0] 42) := ⟨_, rfl⟩
  have hbk := set7_blk (.int .i64 0) (.int .i64 0) (.int .i64 0) (.int .i64 0) (.int .i64 0) (.int .i64 0) (.int .i64 0) HBX3.out
  have hgr := set7_grown w3 w.heap.size (.int .i64 0) (.int .i64 0) (.int .i64 0) (.int .i64 0) (.int .i64 0) (.int .i64 0) (.int .i64 0)
  have hb6 : W6.heap[w.heap.size]? = some (.cells #[.int .i64 0, .int .i64 0, .int .i64 0, .int .i64 0, .int .i64 0, .int .i64 0, .int .i64 0] 42 (0, 0)) := by rw [hW6]; exact alOld hbk
  have hg6 : w3.grownBy W6 (some w.heap.size) := by rw [hW6]; exact gr_two hgr (gr_alloc _ _)
  unfold set7 at hW6
  rw [← hW6]
  obtain ⟨d0, d1, d2, d3, d4, d5, d6, df, dl⟩ := ev_cells hb6
  clear b0 b1 b2 b3 b4 b5 b6 bf bl
  (try simp only [Exit.inBlock, Exit.then]); refine bodyPost_ret (by simp [results, Tryd.results19, go_sem, d0, d1, d2, d3, d4, d5, d6]; try rfl) rfl ?_
  exact ⟨rfl, HB3.out.grown hg6 HB3.out.size (fun k e => by cases e; exact Nat.le_refl _)⟩

set_option maxRecDepth 100000 in
set_option maxHeartbeats 2000000 in
theorem klocal_no4 (p : Nat) (v : Value) (s : CoS) (k : Nat) (a b c : Int) (w : World) (h : Kc w p v s) (he : endB s.ps s.a = false) (ha : s.a = k) (_hk : k < 1000) (hx : atI s.ps s.a.toNat = ⟨4, a, b, c⟩) :
    Calls Tryd.prog 19 #[.pointer (some ⟨p, 0, none⟩)] w fun e w' => e = .returned (.tuple #[.agg #[.int .i64 0, .int .i64 0, .int .i64 0, .int .i64 0, .int .i64 0, .int .i64 0, .int .i64 0], .bool false]) ∧ Below w.heap.size w w' := by
  have H := Lib.hid h
  have HE := Lib.hid he
  have HX := Lib.hid hx
  have HA := Lib.hid ha
  clear h he hx ha
  go_enter Tryd.func19, Tryd.ntmps19
  go_wp2_with fail
  have hne := knext_ok p v s _ (H.out.ext (ext_alloc (.cells #[.int .i64 0, .int .i64 0, .int .i64 0, .int .i64 0, .int .i64 0, .int .i64 0, .int .i64 0] 42) (Below.refl _ w))) HE.out
  rw [HX.out] at hne
  refine hne.mono ?_
  clear hne
  rintro e w1 ⟨rfl, hb⟩
  go_upto_if 14 with (fail)
  obtain ⟨W2, hW2⟩ : ∃ W2, W2 = w1.alloc (.cells #[.int .i64 4, .int .i64 a, .int .i64 b, .int .i64 c] 36) := ⟨_, rfl⟩
  have hbW : Below w1.heap.size w1 W2 := by rw [hW2]; exact ext_alloc _ (Below.refl _ _)
  have HB := Lib.hid (ext_trans (ext_alloc (.cells #[.int .i64 0, .int .i64 0, .int .i64 0, .int .i64 0, .int .i64 0, .int .i64 0, .int .i64 0] 42) (Below.refl _ w)) (ext_trans hb hbW))
  have hs1 : w.heap.size < w1.heap.size := by have := hb.size; simp at this; omega
  have HBX := Lib.hid ((hbW.block w.heap.size hs1).trans ((hb.block w.heap.size (by simp)).trans (alNew rfl)))
  have hxx : W2.heap[w1.heap.size]? = some (.cells #[.int .i64 4, .int .i64 a, .int .i64 b, .int .i64 c] 36 (0, 0)) := by rw [hW2]; exact alNew rfl
  have HXX := Lib.hid hxx
  obtain ⟨q0, q1, q2, q3, ql⟩ := ins_cells (x := ⟨4, a, b, c⟩) hxx
  dsimp only at q0 q1 q2 q3
  rw [← hW2]
  clear hb hbW hW2 hxx
  go_wp2_with fail
  clear q0 q1 q2 q3 ql
  have hev := kevent_any p v s ⟨4, a, b, c⟩ W2 (H.out.ext HB.out)
  rw [HA.out] at hev
  refine hev.mono ?_
  clear hev
  rintro e w3 ⟨rfl, hb⟩
  have HB3 := Lib.hid (ext_trans HB.out hb)
  have HK3 := Lib.hid (H.out.ext HB3.out)
  have HBX3 := Lib.hid ((hb.block _ (lt_of HBX.out)).trans HBX.out)
  obtain ⟨q0, q1, q2, q3, ql⟩ := ins_cells (x := ⟨4, a, b, c⟩) ((hb.block _ (lt_of HXX.out)).trans HXX.out)
  dsimp only at q0 q1 q2 q3
  have hpl := HK3.out.lt
  have hpf := HK3.out.free
  have k4 := HK3.out.cells.2.2.2.2.1
  have k5 := HK3.out.cells.2.2.2.2.2.1
  rw [HA.out] at k4
  clear hb
  obtain ⟨b0, b1, b2, b3, b4, b5, b6, bf, bl⟩ := ev_cells HBX3.out
  go_wp2_with fail
  obtain ⟨W6, hW6⟩ : ∃ W6, W6 = (set7 w3 w.heap.size (.int .i64 0) (.int .i64 0) (.int .i64 0) (.int .i64 0) (.int .i64 0) (.int .i64 0) (.int .i64 0)).alloc (.cells #[.int .i64 s.no, .int .i64 k, .int .i64 4, .int .i64 s.wo, .int .i64 0, .int .i64 0, .int .i64 0] 42) := ⟨_, rfl⟩
  have hbk := set7_blk (.int .i64 0) (.int .i64 0) (.int .i64 0) (.int .i64 0) (.int .i64 0) (.int .i64 0) (.int .i64 0) HBX3.out
  have hgr := set7_grown w3 w.heap.size (.int .i64 0) (.int .i64 0) (.int .i64 0) (.int .i64 0) (.int .i64 0) (.int .i64 0) (.int .i64 0)
  have hb6 : W6.heap[w.heap.size]? = some (.cells #[.int .i64 0, .int .i64 0, .int .i64 0, .int .i64 0, .int .i64 0, .int .i64 0, .int .i64 0] 42 (0, 0)) := by rw [hW6]; exact alOld hbk
  have hg6 : w3.grownBy W6 (some w.heap.size) := by rw [hW6]; exact gr_two hgr (gr_alloc _ _)
  unfold set7 at hW6
  rw [← hW6]
  obtain ⟨d0, d1, d2, d3, d4, d5, d6, df, dl⟩ := ev_cells hb6
  clear b0 b1 b2 b3 b4 b5 b6 bf bl
  (try simp only [Exit.inBlock, Exit.then]); refine bodyPost_ret (by simp [results, Tryd.results19, go_sem, d0, d1, d2, d3, d4, d5, d6]; try rfl) rfl ?_
  exact ⟨rfl, HB3.out.grown hg6 HB3.out.size (fun k e => by cases e; exact Nat.le_refl _)⟩

set_option maxRecDepth 100000 in
set_option maxHeartbeats 2000000 in
theorem klocal_no5 (p : Nat) (v : Value) (s : CoS) (k : Nat) (a b c : Int) (w : World) (h : Kc w p v s) (he : endB s.ps s.a = false) (ha : s.a = k) (_hk : k < 1000) (hx : atI s.ps s.a.toNat = ⟨5, a, b, c⟩) :
    Calls Tryd.prog 19 #[.pointer (some ⟨p, 0, none⟩)] w fun e w' => e = .returned (.tuple #[.agg #[.int .i64 0, .int .i64 0, .int .i64 0, .int .i64 0, .int .i64 0, .int .i64 0, .int .i64 0], .bool false]) ∧ Below w.heap.size w w' := by
  have H := Lib.hid h
  have HE := Lib.hid he
  have HX := Lib.hid hx
  have HA := Lib.hid ha
  clear h he hx ha
  go_enter Tryd.func19, Tryd.ntmps19
  go_wp2_with fail
  have hne := knext_ok p v s _ (H.out.ext (ext_alloc (.cells #[.int .i64 0, .int .i64 0, .int .i64 0, .int .i64 0, .int .i64 0, .int .i64 0, .int .i64 0] 42) (Below.refl _ w))) HE.out
  rw [HX.out] at hne
  refine hne.mono ?_
  clear hne
  rintro e w1 ⟨rfl, hb⟩
  go_upto_if 14 with (fail)
  obtain ⟨W2, hW2⟩ : ∃ W2, W2 = w1.alloc (.cells #[.int .i64 5, .int .i64 a, .int .i64 b, .int .i64 c] 36) := ⟨_, rfl⟩
  have hbW : Below w1.heap.size w1 W2 := by rw [hW2]; exact ext_alloc _ (Below.refl _ _)
  have HB := Lib.hid (ext_trans (ext_alloc (.cells #[.int .i64 0, .int .i64 0, .int .i64 0, .int .i64 0, .int .i64 0, .int .i64 0, .int .i64 0] 42) (Below.refl _ w)) (ext_trans hb hbW))
  have hs1 : w.heap.size < w1.heap.size := by have := hb.size; simp at this; omega
  have HBX := Lib.hid ((hbW.block w.heap.size hs1).trans ((hb.block w.heap.size (by simp)).trans (alNew rfl)))
  have hxx : W2.heap[w1.heap.size]? = some (.cells #[.int .i64 5, .int .i64 a, .int .i64 b, .int .i64 c] 36 (0, 0)) := by rw [hW2]; exact alNew rfl
  have HXX := Lib.hid hxx
  obtain ⟨q0, q1, q2, q3, ql⟩ := ins_cells (x := ⟨5, a, b, c⟩) hxx
  dsimp only at q0 q1 q2 q3
  rw [← hW2]
  clear hb hbW hW2 hxx
  go_wp2_with fail
  clear q0 q1 q2 q3 ql
  have hev := kevent_any p v s ⟨5, a, b, c⟩ W2 (H.out.ext HB.out)
  rw [HA.out] at hev
  refine hev.mono ?_
  clear hev
  rintro e w3 ⟨rfl, hb⟩
  have HB3 := Lib.hid (ext_trans HB.out hb)
  have HK3 := Lib.hid (H.out.ext HB3.out)
  have HBX3 := Lib.hid ((hb.block _ (lt_of HBX.out)).trans HBX.out)
  obtain ⟨q0, q1, q2, q3, ql⟩ := ins_cells (x := ⟨5, a, b, c⟩) ((hb.block _ (lt_of HXX.out)).trans HXX.out)
  dsimp only at q0 q1 q2 q3
  have hpl := HK3.out.lt
  have hpf := HK3.out.free
  have k4 := HK3.out.cells.2.2.2.2.1
  have k5 := HK3.out.cells.2.2.2.2.2.1
  rw [HA.out] at k4
  clear hb
  obtain ⟨b0, b1, b2, b3, b4, b5, b6, bf, bl⟩ := ev_cells HBX3.out
  go_wp2_with fail
  obtain ⟨W6, hW6⟩ : ∃ W6, W6 = (set7 w3 w.heap.size (.int .i64 0) (.int .i64 0) (.int .i64 0) (.int .i64 0) (.int .i64 0) (.int .i64 0) (.int .i64 0)).alloc (.cells #[.int .i64 s.no, .int .i64 k, .int .i64 5, .int .i64 s.wo, .int .i64 0, .int .i64 0, .int .i64 0] 42) := ⟨_, rfl⟩
  have hbk := set7_blk (.int .i64 0) (.int .i64 0) (.int .i64 0) (.int .i64 0) (.int .i64 0) (.int .i64 0) (.int .i64 0) HBX3.out
  have hgr := set7_grown w3 w.heap.size (.int .i64 0) (.int .i64 0) (.int .i64 0) (.int .i64 0) (.int .i64 0) (.int .i64 0) (.int .i64 0)
  have hb6 : W6.heap[w.heap.size]? = some (.cells #[.int .i64 0, .int .i64 0, .int .i64 0, .int .i64 0, .int .i64 0, .int .i64 0, .int .i64 0] 42 (0, 0)) := by rw [hW6]; exact alOld hbk
  have hg6 : w3.grownBy W6 (some w.heap.size) := by rw [hW6]; exact gr_two hgr (gr_alloc _ _)
  unfold set7 at hW6
  rw [← hW6]
  obtain ⟨d0, d1, d2, d3, d4, d5, d6, df, dl⟩ := ev_cells hb6
  clear b0 b1 b2 b3 b4 b5 b6 bf bl
  (try simp only [Exit.inBlock, Exit.then]); refine bodyPost_ret (by simp [results, Tryd.results19, go_sem, d0, d1, d2, d3, d4, d5, d6]; try rfl) rfl ?_
  exact ⟨rfl, HB3.out.grown hg6 HB3.out.size (fun k e => by cases e; exact Nat.le_refl _)⟩

set_option maxRecDepth 100000 in
set_option maxHeartbeats 2000000 in
theorem klocal_no8 (p : Nat) (v : Value) (s : CoS) (k : Nat) (a b c : Int) (w : World) (h : Kc w p v s) (he : endB s.ps s.a = false) (ha : s.a = k) (_hk : k < 1000) (hx : atI s.ps s.a.toNat = ⟨8, a, b, c⟩) :
    Calls Tryd.prog 19 #[.pointer (some ⟨p, 0, none⟩)] w fun e w' => e = .returned (.tuple #[.agg #[.int .i64 0, .int .i64 0, .int .i64 0, .int .i64 0, .int .i64 0, .int .i64 0, .int .i64 0], .bool false]) ∧ Below w.heap.size w w' := by
  have H := Lib.hid h
  have HE := Lib.hid he
  have HX := Lib.hid hx
  have HA := Lib.hid ha
  clear h he hx ha
  go_enter Tryd.func19, Tryd.ntmps19
  go_wp2_with fail
  have hne := knext_ok p v s _ (H.out.ext (ext_alloc (.cells #[.int .i64 0, .int .i64 0, .int .i64 0, .int .i64 0, .int .i64 0, .int .i64 0, .int .i64 0] 42) (Below.refl _ w))) HE.out
  rw [HX.out] at hne
  refine hne.mono ?_
  clear hne
  rintro e w1 ⟨rfl, hb⟩
  go_upto_if 14 with (fail)
  obtain ⟨W2, hW2⟩ : ∃ W2, W2 = w1.alloc (.cells #[.int .i64 8, .int .i64 a, .int .i64 b, .int .i64 c] 36) := ⟨_, rfl⟩
  have hbW : Below w1.heap.size w1 W2 := by rw [hW2]; exact ext_alloc _ (Below.refl _ _)
  have HB := Lib.hid (ext_trans (ext_alloc (.cells #[.int .i64 0, .int .i64 0, .int .i64 0, .int .i64 0, .int .i64 0, .int .i64 0, .int .i64 0] 42) (Below.refl _ w)) (ext_trans hb hbW))
  have hs1 : w.heap.size < w1.heap.size := by have := hb.size; simp at this; omega
  have HBX := Lib.hid ((hbW.block w.heap.size hs1).trans ((hb.block w.heap.size (by simp)).trans (alNew rfl)))
  have hxx : W2.heap[w1.heap.size]? = some (.cells #[.int .i64 8, .int .i64 a, .int .i64 b, .int .i64 c] 36 (0, 0)) := by rw [hW2]; exact alNew rfl
  have HXX := Lib.hid hxx
  obtain ⟨q0, q1, q2, q3, ql⟩ := ins_cells (x := ⟨8, a, b, c⟩) hxx
  dsimp only at q0 q1 q2 q3
  rw [← hW2]
  clear hb hbW hW2 hxx
  go_wp2_with fail
  clear q0 q1 q2 q3 ql
  have hev := kevent_any p v s ⟨8, a, b, c⟩ W2 (H.out.ext HB.out)
  rw [HA.out] at hev
  refine hev.mono ?_
  clear hev
  rintro e w3 ⟨rfl, hb⟩
  have HB3 := Lib.hid (ext_trans HB.out hb)
  have HK3 := Lib.hid (H.out.ext HB3.out)
  have HBX3 := Lib.hid ((hb.block _ (lt_of HBX.out)).trans HBX.out)
  obtain ⟨q0, q1, q2, q3, ql⟩ := ins_cells (x := ⟨8, a, b, c⟩) ((hb.block _ (lt_of HXX.out)).trans HXX.out)
  dsimp only at q0 q1 q2 q3
  have hpl := HK3.out.lt
  have hpf := HK3.out.free
  have k4 := HK3.out.cells.2.2.2.2.1
  have k5 := HK3.out.cells.2.2.2.2.2.1
  rw [HA.out] at k4
  clear hb
  obtain ⟨b0, b1, b2, b3, b4, b5, b6, bf, bl⟩ := ev_cells HBX3.out
  go_wp2_with fail
  obtain ⟨W6, hW6⟩ : ∃ W6, W6 = (set7 w3 w.heap.size (.int .i64 0) (.int .i64 0) (.int .i64 0) (.int .i64 0) (.int .i64 0) (.int .i64 0) (.int .i64 0)).alloc (.cells #[.int .i64 s.no, .int .i64 k, .int .i64 8, .int .i64 s.wo, .int .i64 0, .int .i64 0, .int .i64 0] 42) := ⟨_, rfl⟩
  have hbk := set7_blk (.int .i64 0) (.int .i64 0) (.int .i64 0) (.int .i64 0) (.int .i64 0) (.int .i64 0) (.int .i64 0) HBX3.out
  have hgr := set7_grown w3 w.heap.size (.int .i64 0) (.int .i64 0) (.int .i64 0) (.int .i64 0) (.int .i64 0) (.int .i64 0) (.int .i64 0)
  have hb6 : W6.heap[w.heap.size]? = some (.cells #[.int .i64 0, .int .i64 0, .int .i64 0, .int .i64 0, .int .i64 0, .int .i64 0, .int .i64 0] 42 (0, 0)) := by rw [hW6]; exact alOld hbk
  have hg6 : w3.grownBy W6 (some w.heap.size) := by rw [hW6]; exact gr_two hgr (gr_alloc _ _)
  unfold set7 at hW6
  rw [← hW6]
  obtain ⟨d0, d1, d2, d3, d4, d5, d6, df, dl⟩ := ev_cells hb6
  clear b0 b1 b2 b3 b4 b5 b6 bf bl
  (try simp only [Exit.inBlock, Exit.then]); refine bodyPost_ret (by simp [results, Tryd.results19, go_sem, d0, d1, d2, d3, d4, d5, d6]; try rfl) rfl ?_
  exact ⟨rfl, HB3.out.grown hg6 HB3.out.size (fun k e => by cases e; exact Nat.le_refl _)⟩

set_option maxRecDepth 100000 in
set_option maxHeartbeats 2000000 in
theorem kretire_ok3 (p : Nat) (v : Value) (s : CoS) (k : Nat) (i j : Nat) (c y : Int) (w : World) (h : Kc w p v s) (he : endB s.ps s.a = false) (ha : s.a = k) (_hk : k < 1000) (hx : atI s.ps s.a.toNat = ⟨3, (i : Nat), (j : Nat), c⟩) (hi : i < 4) (hj : j < 4) :
    Calls Tryd.prog 24 #[.pointer (some ⟨p, 0, none⟩), .int .i64 y, .int .i64 0] w fun e w' => e = .returned (.tuple #[.agg #[.int .i64 s.no, .int .i64 k, .int .i64 3, .int .i64 s.wo, .int .i64 (s.r j), .int .i64 y, .int .i64 0], .int .i64 0]) ∧ Kc w' p v { s with r := upd s.r i y, a := (k : Int) + 1, ov := endB s.ps ((k : Int) + 1) } ∧ w.grownBy w' (some p) := by
  have H := Lib.hid h
  have HE := Lib.hid he
  have HX := Lib.hid hx
  have HA := Lib.hid ha
  clear h he hx ha
  go_enter Tryd.func24, Tryd.ntmps24
  go_wp2_with fail
  have hne := knext_ok p v s _ (H.out.ext (ext_alloc (.cells #[.int .i64 0, .int .i64 0, .int .i64 0, .int .i64 0, .int .i64 0, .int .i64 0, .int .i64 0] 42) (Below.refl _ w))) HE.out
  rw [HX.out] at hne
  refine hne.mono ?_
  clear hne
  rintro e w1 ⟨rfl, hb⟩
  go_upto_if 31 with (go_at_call 50; refine (memory_any 3 _).mono ?_; rintro e w9 ⟨rfl, hw⟩; subst hw)
  obtain ⟨W2, hW2⟩ : ∃ W2, W2 = w1.alloc (.cells #[.int .i64 3, .int .i64 (i : Nat), .int .i64 (j : Nat), .int .i64 c] 36) := ⟨_, rfl⟩
  have hbW : Below w1.heap.size w1 W2 := by rw [hW2]; exact ext_alloc _ (Below.refl _ _)
  have HB := Lib.hid (ext_trans (ext_alloc (.cells #[.int .i64 0, .int .i64 0, .int .i64 0, .int .i64 0, .int .i64 0, .int .i64 0, .int .i64 0] 42) (Below.refl _ w)) (ext_trans hb hbW))
  have hs1 : w.heap.size < w1.heap.size := by have := hb.size; simp at this; omega
  have HBX := Lib.hid ((hbW.block w.heap.size hs1).trans ((hb.block w.heap.size (by simp)).trans (alNew rfl)))
  have hxx : W2.heap[w1.heap.size]? = some (.cells #[.int .i64 3, .int .i64 (i : Nat), .int .i64 (j : Nat), .int .i64 c] 36 (0, 0)) := by rw [hW2]; exact alNew rfl
  have HXX := Lib.hid hxx
  obtain ⟨q0, q1, q2, q3, ql⟩ := ins_cells (x := ⟨3, (i : Nat), (j : Nat), c⟩) hxx
  dsimp only at q0 q1 q2 q3
  rw [← hW2]
  clear hb hbW hW2 hxx
  go_wp2_with fail
  clear q0 q1 q2 q3 ql
  have hev := kevent_any p v s ⟨3, (i : Nat), (j : Nat), c⟩ W2 (H.out.ext HB.out)
  rw [HA.out] at hev
  refine hev.mono ?_
  clear hev
  rintro e w3 ⟨rfl, hb⟩
  have HB3 := Lib.hid (ext_trans HB.out hb)
  have HK3 := Lib.hid (H.out.ext HB3.out)
  have HBX3 := Lib.hid ((hb.block _ (lt_of HBX.out)).trans HBX.out)
  obtain ⟨q0, q1, q2, q3, ql⟩ := ins_cells (x := ⟨3, (i : Nat), (j : Nat), c⟩) ((hb.block _ (lt_of HXX.out)).trans HXX.out)
  dsimp only at q0 q1 q2 q3
  have hpl := HK3.out.lt
  have hpf := HK3.out.free
  have k4 := HK3.out.cells.2.2.2.2.1
  rw [HA.out] at k4
  clear hb
  have r1 := HK3.out.reg i hi
  have r2 := HK3.out.reg j hj
  go_wp2_with fail
  go_region
  go_wp2_with fail
  go_region
  go_wp2_with fail
  refine (turn_any p v { s with r := upd s.r i y } ((k : Int) + 1) _ ((HK3.out.setReg i hi (y)).ext (by (first | exact ext_drew (ext_drew (ext_drew (ext_alloc _ (Below.refl _ _)))) | exact ext_drew (ext_drew (ext_alloc _ (Below.refl _ _))) | exact ext_drew (ext_alloc _ (Below.refl _ _)) | exact ext_alloc _ (Below.refl _ _))))).mono ?_
  rintro e w5 ⟨⟨r, rfl⟩, hk5, hg5⟩
  have hV : w5.heap[w3.heap.size]? = some (.cells #[.int .i64 s.no, .int .i64 k, .int .i64 3, .int .i64 s.wo, .int .i64 (s.r j), .int .i64 y, .int .i64 0] 42 (0, 0)) := (hg5.block w3.heap.size (by simp) (by have := HK3.out.lt; simp; omega)).trans (alNew (by simp))
  have hR : w5.heap[w.heap.size]? = some (.cells #[.int .i64 0, .int .i64 0, .int .i64 0, .int .i64 0, .int .i64 0, .int .i64 0, .int .i64 0] 42 (0, 0)) := (hg5.block w.heap.size (by have := lt_of HBX3.out; simp; omega) (by have := H.out.lt; simp; omega)).trans (alOld ((Below.heap_setCell _ _ _ _ (show w.heap.size ≠ p by have := H.out.lt; omega)).trans HBX3.out))
  have HG5 := Lib.hid (gr_B HB3.out (gr_two (gr_two (sc_grown _ _ _ _) (by first | exact gr_drew (gr_drew (gr_drew (gr_alloc _ _))) | exact gr_drew (gr_drew (gr_alloc _ _)) | exact gr_drew (gr_alloc _ _) | exact gr_alloc _ _)) hg5))
  have HK5 := Lib.hid hk5
  have HR := Lib.hid hR
  obtain ⟨v0, v1, v2, v3, v4, v5, v6, _, vl⟩ := ev_cells hV
  obtain ⟨b0, b1, b2, b3, b4, b5, b6, bf, bl⟩ := ev_cells hR
  clear hk5 hg5 hV hR
  go_wp2_with fail
  obtain ⟨W6, hW6⟩ : ∃ W6, W6 = set7 w5 w.heap.size (.int .i64 s.no) (.int .i64 k) (.int .i64 3) (.int .i64 s.wo) (.int .i64 (s.r j)) (.int .i64 y) (.int .i64 0) := ⟨_, rfl⟩
  have hbk := set7_blk (.int .i64 s.no) (.int .i64 k) (.int .i64 3) (.int .i64 s.wo) (.int .i64 (s.r j)) (.int .i64 y) (.int .i64 0) HR.out
  have hgr := set7_grown w5 w.heap.size (.int .i64 s.no) (.int .i64 k) (.int .i64 3) (.int .i64 s.wo) (.int .i64 (s.r j)) (.int .i64 y) (.int .i64 0)
  rw [← hW6] at hbk hgr
  unfold set7 at hW6
  rw [← hW6]
  obtain ⟨d0, d1, d2, d3, d4, d5, d6, df, dl⟩ := ev_cells hbk
  clear b0 b1 b2 b3 b4 b5 b6 bf bl
  (try simp only [Exit.inBlock, Exit.then]); refine bodyPost_ret (by simp [results, Tryd.results24, go_sem, d0, d1, d2, d3, d4, d5, d6]; try rfl) rfl ?_
  exact ⟨rfl, H.out.past HK5.out rfl hgr (Nat.le_refl _), gr_N HG5.out hgr (Nat.le_refl _)⟩

set_option maxRecDepth 100000 in
set_option maxHeartbeats 2000000 in
theorem kretire_ok5 (p : Nat) (v : Value) (s : CoS) (k : Nat) (i j : Nat) (c y : Int) (w : World) (h : Kc w p v s) (he : endB s.ps s.a = false) (ha : s.a = k) (_hk : k < 1000) (hx : atI s.ps s.a.toNat = ⟨5, (i : Nat), (j : Nat), c⟩) (hi : i < 4) (hj : j < 4) :
    Calls Tryd.prog 24 #[.pointer (some ⟨p, 0, none⟩), .int .i64 y, .int .i64 0] w fun e w' => e = .returned (.tuple #[.agg #[.int .i64 s.no, .int .i64 k, .int .i64 5, .int .i64 s.wo, .int .i64 (s.r j), .int .i64 y, .int .i64 0], .int .i64 0]) ∧ Kc w' p v { s with r := upd s.r i y, a := (k : Int) + 1, ov := endB s.ps ((k : Int) + 1) } ∧ w.grownBy w' (some p) := by
  have H := Lib.hid h
  have HE := Lib.hid he
  have HX := Lib.hid hx
  have HA := Lib.hid ha
  clear h he hx ha
  go_enter Tryd.func24, Tryd.ntmps24
  go_wp2_with fail
  have hne := knext_ok p v s _ (H.out.ext (ext_alloc (.cells #[.int .i64 0, .int .i64 0, .int .i64 0, .int .i64 0, .int .i64 0, .int .i64 0, .int .i64 0] 42) (Below.refl _ w))) HE.out
  rw [HX.out] at hne
  refine hne.mono ?_
  clear hne
  rintro e w1 ⟨rfl, hb⟩
  go_upto_if 31 with (go_at_call 50; refine (memory_any 5 _).mono ?_; rintro e w9 ⟨rfl, hw⟩; subst hw)
  obtain ⟨W2, hW2⟩ : ∃ W2, W2 = w1.alloc (.cells #[.int .i64 5, .int .i64 (i : Nat), .int .i64 (j : Nat), .int .i64 c] 36) := ⟨_, rfl⟩
  have hbW : Below w1.heap.size w1 W2 := by rw [hW2]; exact ext_alloc _ (Below.refl _ _)
  have HB := Lib.hid (ext_trans (ext_alloc (.cells #[.int .i64 0, .int .i64 0, .int .i64 0, .int .i64 0, .int .i64 0, .int .i64 0, .int .i64 0] 42) (Below.refl _ w)) (ext_trans hb hbW))
  have hs1 : w.heap.size < w1.heap.size := by have := hb.size; simp at this; omega
  have HBX := Lib.hid ((hbW.block w.heap.size hs1).trans ((hb.block w.heap.size (by simp)).trans (alNew rfl)))
  have hxx : W2.heap[w1.heap.size]? = some (.cells #[.int .i64 5, .int .i64 (i : Nat), .int .i64 (j : Nat), .int .i64 c] 36 (0, 0)) := by rw [hW2]; exact alNew rfl
  have HXX := Lib.hid hxx
  obtain ⟨q0, q1, q2, q3, ql⟩ := ins_cells (x := ⟨5, (i : Nat), (j : Nat), c⟩) hxx
  dsimp only at q0 q1 q2 q3
  rw [← hW2]
  clear hb hbW hW2 hxx
  go_wp2_with fail
  clear q0 q1 q2 q3 ql
  have hev := kevent_any p v s ⟨5, (i : Nat), (j : Nat), c⟩ W2 (H.out.ext HB.out)
  rw [HA.out] at hev
  refine hev.mono ?_
  clear hev
  rintro e w3 ⟨rfl, hb⟩
  have HB3 := Lib.hid (ext_trans HB.out hb)
  have HK3 := Lib.hid (H.out.ext HB3.out)
  have HBX3 := Lib.hid ((hb.block _ (lt_of HBX.out)).trans HBX.out)
  obtain ⟨q0, q1, q2, q3, ql⟩ := ins_cells (x := ⟨5, (i : Nat), (j : Nat), c⟩) ((hb.block _ (lt_of HXX.out)).trans HXX.out)
  dsimp only at q0 q1 q2 q3
  have hpl := HK3.out.lt
  have hpf := HK3.out.free
  have k4 := HK3.out.cells.2.2.2.2.1
  rw [HA.out] at k4
  clear hb
  have r1 := HK3.out.reg i hi
  have r2 := HK3.out.reg j hj
  go_wp2_with fail
  go_region
  go_wp2_with fail
  go_region
  go_wp2_with fail
  refine (turn_any p v { s with r := upd s.r i y } ((k : Int) + 1) _ ((HK3.out.setReg i hi (y)).ext (by (first | exact ext_drew (ext_drew (ext_drew (ext_alloc _ (Below.refl _ _)))) | exact ext_drew (ext_drew (ext_alloc _ (Below.refl _ _))) | exact ext_drew (ext_alloc _ (Below.refl _ _)) | exact ext_alloc _ (Below.refl _ _))))).mono ?_
  rintro e w5 ⟨⟨r, rfl⟩, hk5, hg5⟩
  have hV : w5.heap[w3.heap.size]? = some (.cells #[.int .i64 s.no, .int .i64 k, .int .i64 5, .int .i64 s.wo, .int .i64 (s.r j), .int .i64 y, .int .i64 0] 42 (0, 0)) := (hg5.block w3.heap.size (by simp) (by have := HK3.out.lt; simp; omega)).trans (alNew (by simp))
  have hR : w5.heap[w.heap.size]? = some (.cells #[.int .i64 0, .int .i64 0, .int .i64 0, .int .i64 0, .int .i64 0, .int .i64 0, .int .i64 0] 42 (0, 0)) := (hg5.block w.heap.size (by have := lt_of HBX3.out; simp; omega) (by have := H.out.lt; simp; omega)).trans (alOld ((Below.heap_setCell _ _ _ _ (show w.heap.size ≠ p by have := H.out.lt; omega)).trans HBX3.out))
  have HG5 := Lib.hid (gr_B HB3.out (gr_two (gr_two (sc_grown _ _ _ _) (by first | exact gr_drew (gr_drew (gr_drew (gr_alloc _ _))) | exact gr_drew (gr_drew (gr_alloc _ _)) | exact gr_drew (gr_alloc _ _) | exact gr_alloc _ _)) hg5))
  have HK5 := Lib.hid hk5
  have HR := Lib.hid hR
  obtain ⟨v0, v1, v2, v3, v4, v5, v6, _, vl⟩ := ev_cells hV
  obtain ⟨b0, b1, b2, b3, b4, b5, b6, bf, bl⟩ := ev_cells hR
  clear hk5 hg5 hV hR
  go_wp2_with fail
  obtain ⟨W6, hW6⟩ : ∃ W6, W6 = set7 w5 w.heap.size (.int .i64 s.no) (.int .i64 k) (.int .i64 5) (.int .i64 s.wo) (.int .i64 (s.r j)) (.int .i64 y) (.int .i64 0) := ⟨_, rfl⟩
  have hbk := set7_blk (.int .i64 s.no) (.int .i64 k) (.int .i64 5) (.int .i64 s.wo) (.int .i64 (s.r j)) (.int .i64 y) (.int .i64 0) HR.out
  have hgr := set7_grown w5 w.heap.size (.int .i64 s.no) (.int .i64 k) (.int .i64 5) (.int .i64 s.wo) (.int .i64 (s.r j)) (.int .i64 y) (.int .i64 0)
  rw [← hW6] at hbk hgr
  unfold set7 at hW6
  rw [← hW6]
  obtain ⟨d0, d1, d2, d3, d4, d5, d6, df, dl⟩ := ev_cells hbk
  clear b0 b1 b2 b3 b4 b5 b6 bf bl
  (try simp only [Exit.inBlock, Exit.then]); refine bodyPost_ret (by simp [results, Tryd.results24, go_sem, d0, d1, d2, d3, d4, d5, d6]; try rfl) rfl ?_
  exact ⟨rfl, H.out.past HK5.out rfl hgr (Nat.le_refl _), gr_N HG5.out hgr (Nat.le_refl _)⟩

set_option maxRecDepth 100000 in
set_option maxHeartbeats 2000000 in
theorem kretire_ok4 (p : Nat) (v : Value) (s : CoS) (k : Nat) (i j : Nat) (c y : Int) (w : World) (h : Kc w p v s) (he : endB s.ps s.a = false) (ha : s.a = k) (_hk : k < 1000) (hx : atI s.ps s.a.toNat = ⟨4, (i : Nat), (j : Nat), c⟩) (hi : i < 4) (hj : j < 4) :
    Calls Tryd.prog 24 #[.pointer (some ⟨p, 0, none⟩), .int .i64 y, .int .i64 0] w fun e w' => e = .returned (.tuple #[.agg #[.int .i64 s.no, .int .i64 k, .int .i64 4, .int .i64 s.wo, .int .i64 (s.r j), .int .i64 (s.r i), .int .i64 0], .int .i64 0]) ∧ Kc w' p v { s with r := s.r, a := (k : Int) + 1, ov := endB s.ps ((k : Int) + 1) } ∧ w.grownBy w' (some p) := by
  have H := Lib.hid h
  have HE := Lib.hid he
  have HX := Lib.hid hx
  have HA := Lib.hid ha
  clear h he hx ha
  go_enter Tryd.func24, Tryd.ntmps24
  go_wp2_with fail
  have hne := knext_ok p v s _ (H.out.ext (ext_alloc (.cells #[.int .i64 0, .int .i64 0, .int .i64 0, .int .i64 0, .int .i64 0, .int .i64 0, .int .i64 0] 42) (Below.refl _ w))) HE.out
  rw [HX.out] at hne
  refine hne.mono ?_
  clear hne
  rintro e w1 ⟨rfl, hb⟩
  go_upto_if 31 with (go_at_call 50; refine (memory_any 4 _).mono ?_; rintro e w9 ⟨rfl, hw⟩; subst hw)
  obtain ⟨W2, hW2⟩ : ∃ W2, W2 = w1.alloc (.cells #[.int .i64 4, .int .i64 (i : Nat), .int .i64 (j : Nat), .int .i64 c] 36) := ⟨_, rfl⟩
  have hbW : Below w1.heap.size w1 W2 := by rw [hW2]; exact ext_alloc _ (Below.refl _ _)
  have HB := Lib.hid (ext_trans (ext_alloc (.cells #[.int .i64 0, .int .i64 0, .int .i64 0, .int .i64 0, .int .i64 0, .int .i64 0, .int .i64 0] 42) (Below.refl _ w)) (ext_trans hb hbW))
  have hs1 : w.heap.size < w1.heap.size := by have := hb.size; simp at this; omega
  have HBX := Lib.hid ((hbW.block w.heap.size hs1).trans ((hb.block w.heap.size (by simp)).trans (alNew rfl)))
  have hxx : W2.heap[w1.heap.size]? = some (.cells #[.int .i64 4, .int .i64 (i : Nat), .int .i64 (j : Nat), .int .i64 c] 36 (0, 0)) := by rw [hW2]; exact alNew rfl
  have HXX := Lib.hid hxx
  obtain ⟨q0, q1, q2, q3, ql⟩ := ins_cells (x := ⟨4, (i : Nat), (j : Nat), c⟩) hxx
  dsimp only at q0 q1 q2 q3
  rw [← hW2]
  clear hb hbW hW2 hxx
  go_wp2_with fail
  clear q0 q1 q2 q3 ql
  have hev := kevent_any p v s ⟨4, (i : Nat), (j : Nat), c⟩ W2 (H.out.ext HB.out)
  rw [HA.out] at hev
  refine hev.mono ?_
  clear hev
  rintro e w3 ⟨rfl, hb⟩
  have HB3 := Lib.hid (ext_trans HB.out hb)
  have HK3 := Lib.hid (H.out.ext HB3.out)
  have HBX3 := Lib.hid ((hb.block _ (lt_of HBX.out)).trans HBX.out)
  obtain ⟨q0, q1, q2, q3, ql⟩ := ins_cells (x := ⟨4, (i : Nat), (j : Nat), c⟩) ((hb.block _ (lt_of HXX.out)).trans HXX.out)
  dsimp only at q0 q1 q2 q3
  have hpl := HK3.out.lt
  have hpf := HK3.out.free
  have k4 := HK3.out.cells.2.2.2.2.1
  rw [HA.out] at k4
  clear hb
  have r1 := HK3.out.reg i hi
  have r2 := HK3.out.reg j hj
  go_wp2_with fail
  go_region
  go_wp2_with fail
  go_region
  go_wp2_with fail
  refine (turn_any p v s ((k : Int) + 1) _ (HK3.out.ext (by (first | exact ext_drew (ext_drew (ext_drew (ext_alloc _ (Below.refl _ _)))) | exact ext_drew (ext_drew (ext_alloc _ (Below.refl _ _))) | exact ext_drew (ext_alloc _ (Below.refl _ _)) | exact ext_alloc _ (Below.refl _ _))))).mono ?_
  rintro e w5 ⟨⟨r, rfl⟩, hk5, hg5⟩
  have hV : w5.heap[w3.heap.size]? = some (.cells #[.int .i64 s.no, .int .i64 k, .int .i64 4, .int .i64 s.wo, .int .i64 (s.r j), .int .i64 (s.r i), .int .i64 0] 42 (0, 0)) := (hg5.block w3.heap.size (by simp) (by have := HK3.out.lt; simp; omega)).trans (alNew rfl)
  have hR : w5.heap[w.heap.size]? = some (.cells #[.int .i64 0, .int .i64 0, .int .i64 0, .int .i64 0, .int .i64 0, .int .i64 0, .int .i64 0] 42 (0, 0)) := (hg5.block w.heap.size (by have := lt_of HBX3.out; simp; omega) (by have := H.out.lt; simp; omega)).trans (alOld HBX3.out)
  have HG5 := Lib.hid (gr_B HB3.out (gr_two (by first | exact gr_drew (gr_drew (gr_drew (gr_alloc _ _))) | exact gr_drew (gr_drew (gr_alloc _ _)) | exact gr_drew (gr_alloc _ _) | exact gr_alloc _ _) hg5))
  have HK5 := Lib.hid hk5
  have HR := Lib.hid hR
  obtain ⟨v0, v1, v2, v3, v4, v5, v6, _, vl⟩ := ev_cells hV
  obtain ⟨b0, b1, b2, b3, b4, b5, b6, bf, bl⟩ := ev_cells hR
  clear hk5 hg5 hV hR
  go_wp2_with fail
  obtain ⟨W6, hW6⟩ : ∃ W6, W6 = set7 w5 w.heap.size (.int .i64 s.no) (.int .i64 k) (.int .i64 4) (.int .i64 s.wo) (.int .i64 (s.r j)) (.int .i64 (s.r i)) (.int .i64 0) := ⟨_, rfl⟩
  have hbk := set7_blk (.int .i64 s.no) (.int .i64 k) (.int .i64 4) (.int .i64 s.wo) (.int .i64 (s.r j)) (.int .i64 (s.r i)) (.int .i64 0) HR.out
  have hgr := set7_grown w5 w.heap.size (.int .i64 s.no) (.int .i64 k) (.int .i64 4) (.int .i64 s.wo) (.int .i64 (s.r j)) (.int .i64 (s.r i)) (.int .i64 0)
  rw [← hW6] at hbk hgr
  unfold set7 at hW6
  rw [← hW6]
  obtain ⟨d0, d1, d2, d3, d4, d5, d6, df, dl⟩ := ev_cells hbk
  clear b0 b1 b2 b3 b4 b5 b6 bf bl
  (try simp only [Exit.inBlock, Exit.then]); refine bodyPost_ret (by simp [results, Tryd.results24, go_sem, d0, d1, d2, d3, d4, d5, d6]; try rfl) rfl ?_
  exact ⟨rfl, H.out.past HK5.out rfl hgr (Nat.le_refl _), gr_N HG5.out hgr (Nat.le_refl _)⟩

set_option maxRecDepth 100000 in
set_option maxHeartbeats 2000000 in
theorem kretire_no3 (p : Nat) (v : Value) (s : CoS) (k : Nat) (i j : Nat) (c y : Int) (w : World) (h : Kc w p v s) (he : endB s.ps s.a = false) (ha : s.a = k) (_hk : k < 1000) (hx : atI s.ps s.a.toNat = ⟨3, (i : Nat), (j : Nat), c⟩) (hi : i < 4) (hj : j < 4) :
    Calls Tryd.prog 24 #[.pointer (some ⟨p, 0, none⟩), .int .i64 y, .int .i64 19] w fun e w' => e = .returned (.tuple #[.agg #[.int .i64 s.no, .int .i64 k, .int .i64 3, .int .i64 s.wo, .int .i64 (s.r j), .int .i64 0, .int .i64 19], .int .i64 0]) ∧ Kc w' p v { s with r := s.r, a := (k : Int) + 1, ov := endB s.ps ((k : Int) + 1) } ∧ w.grownBy w' (some p) := by
  have H := Lib.hid h
  have HE := Lib.hid he
  have HX := Lib.hid hx
  have HA := Lib.hid ha
  clear h he hx ha
  go_enter Tryd.func24, Tryd.ntmps24
  go_wp2_with fail
  have hne := knext_ok p v s _ (H.out.ext (ext_alloc (.cells #[.int .i64 0, .int .i64 0, .int .i64 0, .int .i64 0, .int .i64 0, .int .i64 0, .int .i64 0] 42) (Below.refl _ w))) HE.out
  rw [HX.out] at hne
  refine hne.mono ?_
  clear hne
  rintro e w1 ⟨rfl, hb⟩
  go_upto_if 31 with (go_at_call 50; refine (memory_any 3 _).mono ?_; rintro e w9 ⟨rfl, hw⟩; subst hw)
  obtain ⟨W2, hW2⟩ : ∃ W2, W2 = w1.alloc (.cells #[.int .i64 3, .int .i64 (i : Nat), .int .i64 (j : Nat), .int .i64 c] 36) := ⟨_, rfl⟩
  have hbW : Below w1.heap.size w1 W2 := by rw [hW2]; exact ext_alloc _ (Below.refl _ _)
  have HB := Lib.hid (ext_trans (ext_alloc (.cells #[.int .i64 0, .int .i64 0, .int .i64 0, .int .i64 0, .int .i64 0, .int .i64 0, .int .i64 0] 42) (Below.refl _ w)) (ext_trans hb hbW))
  have hs1 : w.heap.size < w1.heap.size := by have := hb.size; simp at this; omega
  have HBX := Lib.hid ((hbW.block w.heap.size hs1).trans ((hb.block w.heap.size (by simp)).trans (alNew rfl)))
  have hxx : W2.heap[w1.heap.size]? = some (.cells #[.int .i64 3, .int .i64 (i : Nat), .int .i64 (j : Nat), .int .i64 c] 36 (0, 0)) := by rw [hW2]; exact alNew rfl
  have HXX := Lib.hid hxx
  obtain ⟨q0, q1, q2, q3, ql⟩ := ins_cells (x := ⟨3, (i : Nat), (j : Nat), c⟩) hxx
  dsimp only at q0 q1 q2 q3
  rw [← hW2]
  clear hb hbW hW2 hxx
  go_wp2_with fail
  clear q0 q1 q2 q3 ql
  have hev := kevent_any p v s ⟨3, (i : Nat), (j : Nat), c⟩ W2 (H.out.ext HB.out)
  rw [HA.out] at hev
  refine hev.mono ?_
  clear hev
  rintro e w3 ⟨rfl, hb⟩
  have HB3 := Lib.hid (ext_trans HB.out hb)
  have HK3 := Lib.hid (H.out.ext HB3.out)
  have HBX3 := Lib.hid ((hb.block _ (lt_of HBX.out)).trans HBX.out)
  obtain ⟨q0, q1, q2, q3, ql⟩ := ins_cells (x := ⟨3, (i : Nat), (j : Nat), c⟩) ((hb.block _ (lt_of HXX.out)).trans HXX.out)
  dsimp only at q0 q1 q2 q3
  have hpl := HK3.out.lt
  have hpf := HK3.out.free
  have k4 := HK3.out.cells.2.2.2.2.1
  rw [HA.out] at k4
  clear hb
  have r1 := HK3.out.reg i hi
  have r2 := HK3.out.reg j hj
  go_wp2_with fail
  go_region
  go_wp2_with fail
  refine (turn_any p v s ((k : Int) + 1) _ (HK3.out.ext (by (first | exact ext_drew (ext_drew (ext_drew (ext_alloc _ (Below.refl _ _)))) | exact ext_drew (ext_drew (ext_alloc _ (Below.refl _ _))) | exact ext_drew (ext_alloc _ (Below.refl _ _)) | exact ext_alloc _ (Below.refl _ _))))).mono ?_
  rintro e w5 ⟨⟨r, rfl⟩, hk5, hg5⟩
  have hV : w5.heap[w3.heap.size]? = some (.cells #[.int .i64 s.no, .int .i64 k, .int .i64 3, .int .i64 s.wo, .int .i64 (s.r j), .int .i64 0, .int .i64 19] 42 (0, 0)) := (hg5.block w3.heap.size (by simp) (by have := HK3.out.lt; simp; omega)).trans (alNew rfl)
  have hR : w5.heap[w.heap.size]? = some (.cells #[.int .i64 0, .int .i64 0, .int .i64 0, .int .i64 0, .int .i64 0, .int .i64 0, .int .i64 0] 42 (0, 0)) := (hg5.block w.heap.size (by have := lt_of HBX3.out; simp; omega) (by have := H.out.lt; simp; omega)).trans (alOld HBX3.out)
  have HG5 := Lib.hid (gr_B HB3.out (gr_two (by first | exact gr_drew (gr_drew (gr_drew (gr_alloc _ _))) | exact gr_drew (gr_drew (gr_alloc _ _)) | exact gr_drew (gr_alloc _ _) | exact gr_alloc _ _) hg5))
  have HK5 := Lib.hid hk5
  have HR := Lib.hid hR
  obtain ⟨v0, v1, v2, v3, v4, v5, v6, _, vl⟩ := ev_cells hV
  obtain ⟨b0, b1, b2, b3, b4, b5, b6, bf, bl⟩ := ev_cells hR
  clear hk5 hg5 hV hR
  go_wp2_with fail
  obtain ⟨W6, hW6⟩ : ∃ W6, W6 = set7 w5 w.heap.size (.int .i64 s.no) (.int .i64 k) (.int .i64 3) (.int .i64 s.wo) (.int .i64 (s.r j)) (.int .i64 0) (.int .i64 19) := ⟨_, rfl⟩
  have hbk := set7_blk (.int .i64 s.no) (.int .i64 k) (.int .i64 3) (.int .i64 s.wo) (.int .i64 (s.r j)) (.int .i64 0) (.int .i64 19) HR.out
  have hgr := set7_grown w5 w.heap.size (.int .i64 s.no) (.int .i64 k) (.int .i64 3) (.int .i64 s.wo) (.int .i64 (s.r j)) (.int .i64 0) (.int .i64 19)
  rw [← hW6] at hbk hgr
  unfold set7 at hW6
  rw [← hW6]
  obtain ⟨d0, d1, d2, d3, d4, d5, d6, df, dl⟩ := ev_cells hbk
  clear b0 b1 b2 b3 b4 b5 b6 bf bl
  (try simp only [Exit.inBlock, Exit.then]); refine bodyPost_ret (by simp [results, Tryd.results24, go_sem, d0, d1, d2, d3, d4, d5, d6]; try rfl) rfl ?_
  exact ⟨rfl, H.out.past HK5.out rfl hgr (Nat.le_refl _), gr_N HG5.out hgr (Nat.le_refl _)⟩

set_option maxRecDepth 100000 in
set_option maxHeartbeats 2000000 in
theorem kretire_no4 (p : Nat) (v : Value) (s : CoS) (k : Nat) (i j : Nat) (c y : Int) (w : World) (h : Kc w p v s) (he : endB s.ps s.a = false) (ha : s.a = k) (_hk : k < 1000) (hx : atI s.ps s.a.toNat = ⟨4, (i : Nat), (j : Nat), c⟩) (hi : i < 4) (hj : j < 4) :
    Calls Tryd.prog 24 #[.pointer (some ⟨p, 0, none⟩), .int .i64 y, .int .i64 19] w fun e w' => e = .returned (.tuple #[.agg #[.int .i64 s.no, .int .i64 k, .int .i64 4, .int .i64 s.wo, .int .i64 (s.r j), .int .i64 0, .int .i64 19], .int .i64 0]) ∧ Kc w' p v { s with r := s.r, a := (k : Int) + 1, ov := endB s.ps ((k : Int) + 1) } ∧ w.grownBy w' (some p) := by
  have H := Lib.hid h
  have HE := Lib.hid he
  have HX := Lib.hid hx
  have HA := Lib.hid ha
  clear h he hx ha
  go_enter Tryd.func24, Tryd.ntmps24
  go_wp2_with fail
  have hne := knext_ok p v s _ (H.out.ext (ext_alloc (.cells #[.int .i64 0, .int .i64 0, .int .i64 0, .int .i64 0, .int .i64 0, .int .i64 0, .int .i64 0] 42) (Below.refl _ w))) HE.out
  rw [HX.out] at hne
  refine hne.mono ?_
  clear hne
  rintro e w1 ⟨rfl, hb⟩
  go_upto_if 31 with (go_at_call 50; refine (memory_any 4 _).mono ?_; rintro e w9 ⟨rfl, hw⟩; subst hw)
  obtain ⟨W2, hW2⟩ : ∃ W2, W2 = w1.alloc (.cells #[.int .i64 4, .int .i64 (i : Nat), .int .i64 (j : Nat), .int .i64 c] 36) := ⟨_, rfl⟩
  have hbW : Below w1.heap.size w1 W2 := by rw [hW2]; exact ext_alloc _ (Below.refl _ _)
  have HB := Lib.hid (ext_trans (ext_alloc (.cells #[.int .i64 0, .int .i64 0, .int .i64 0, .int .i64 0, .int .i64 0, .int .i64 0, .int .i64 0] 42) (Below.refl _ w)) (ext_trans hb hbW))
  have hs1 : w.heap.size < w1.heap.size := by have := hb.size; simp at this; omega
  have HBX := Lib.hid ((hbW.block w.heap.size hs1).trans ((hb.block w.heap.size (by simp)).trans (alNew rfl)))
  have hxx : W2.heap[w1.heap.size]? = some (.cells #[.int .i64 4, .int .i64 (i : Nat), .int .i64 (j : Nat), .int .i64 c] 36 (0, 0)) := by rw [hW2]; exact alNew rfl
  have HXX := Lib.hid hxx
  obtain ⟨q0, q1, q2, q3, ql⟩ := ins_cells (x := ⟨4, (i : Nat), (j : Nat), c⟩) hxx
  dsimp only at q0 q1 q2 q3
  rw [← hW2]
  clear hb hbW hW2 hxx
  go_wp2_with fail
  clear q0 q1 q2 q3 ql
  have hev := kevent_any p v s ⟨4, (i : Nat), (j : Nat), c⟩ W2 (H.out.ext HB.out)
  rw [HA.out] at hev
  refine hev.mono ?_
  clear hev
  rintro e w3 ⟨rfl, hb⟩
  have HB3 := Lib.hid (ext_trans HB.out hb)
  have HK3 := Lib.hid (H.out.ext HB3.out)
  have HBX3 := Lib.hid ((hb.block _ (lt_of HBX.out)).trans HBX.out)
  obtain ⟨q0, q1, q2, q3, ql⟩ := ins_cells (x := ⟨4, (i : Nat), (j : Nat), c⟩) ((hb.block _ (lt_of HXX.out)).trans HXX.out)
  dsimp only at q0 q1 q2 q3
  have hpl := HK3.out.lt
  have hpf := HK3.out.free
  have k4 := HK3.out.cells.2.2.2.2.1
  rw [HA.out] at k4
  clear hb
  have r1 := HK3.out.reg i hi
  have r2 := HK3.out.reg j hj
  go_wp2_with fail
  go_region
  go_wp2_with fail
  refine (turn_any p v s ((k : Int) + 1) _ (HK3.out.ext (by (first | exact ext_drew (ext_drew (ext_drew (ext_alloc _ (Below.refl _ _)))) | exact ext_drew (ext_drew (ext_alloc _ (Below.refl _ _))) | exact ext_drew (ext_alloc _ (Below.refl _ _)) | exact ext_alloc _ (Below.refl _ _))))).mono ?_
  rintro e w5 ⟨⟨r, rfl⟩, hk5, hg5⟩
  have hV : w5.heap[w3.heap.size]? = some (.cells #[.int .i64 s.no, .int .i64 k, .int .i64 4, .int .i64 s.wo, .int .i64 (s.r j), .int .i64 0, .int .i64 19] 42 (0, 0)) := (hg5.block w3.heap.size (by simp) (by have := HK3.out.lt; simp; omega)).trans (alNew rfl)
  have hR : w5.heap[w.heap.size]? = some (.cells #[.int .i64 0, .int .i64 0, .int .i64 0, .int .i64 0, .int .i64 0, .int .i64 0, .int .i64 0] 42 (0, 0)) := (hg5.block w.heap.size (by have := lt_of HBX3.out; simp; omega) (by have := H.out.lt; simp; omega)).trans (alOld HBX3.out)
  have HG5 := Lib.hid (gr_B HB3.out (gr_two (by first | exact gr_drew (gr_drew (gr_drew (gr_alloc _ _))) | exact gr_drew (gr_drew (gr_alloc _ _)) | exact gr_drew (gr_alloc _ _) | exact gr_alloc _ _) hg5))
  have HK5 := Lib.hid hk5
  have HR := Lib.hid hR
  obtain ⟨v0, v1, v2, v3, v4, v5, v6, _, vl⟩ := ev_cells hV
  obtain ⟨b0, b1, b2, b3, b4, b5, b6, bf, bl⟩ := ev_cells hR
  clear hk5 hg5 hV hR
  go_wp2_with fail
  obtain ⟨W6, hW6⟩ : ∃ W6, W6 = set7 w5 w.heap.size (.int .i64 s.no) (.int .i64 k) (.int .i64 4) (.int .i64 s.wo) (.int .i64 (s.r j)) (.int .i64 0) (.int .i64 19) := ⟨_, rfl⟩
  have hbk := set7_blk (.int .i64 s.no) (.int .i64 k) (.int .i64 4) (.int .i64 s.wo) (.int .i64 (s.r j)) (.int .i64 0) (.int .i64 19) HR.out
  have hgr := set7_grown w5 w.heap.size (.int .i64 s.no) (.int .i64 k) (.int .i64 4) (.int .i64 s.wo) (.int .i64 (s.r j)) (.int .i64 0) (.int .i64 19)
  rw [← hW6] at hbk hgr
  unfold set7 at hW6
  rw [← hW6]
  obtain ⟨d0, d1, d2, d3, d4, d5, d6, df, dl⟩ := ev_cells hbk
  clear b0 b1 b2 b3 b4 b5 b6 bf bl
  (try simp only [Exit.inBlock, Exit.then]); refine bodyPost_ret (by simp [results, Tryd.results24, go_sem, d0, d1, d2, d3, d4, d5, d6]; try rfl) rfl ?_
  exact ⟨rfl, H.out.past HK5.out rfl hgr (Nat.le_refl _), gr_N HG5.out hgr (Nat.le_refl _)⟩

set_option maxRecDepth 100000 in
set_option maxHeartbeats 2000000 in
theorem kretire_no5 (p : Nat) (v : Value) (s : CoS) (k : Nat) (i j : Nat) (c y : Int) (w : World) (h : Kc w p v s) (he : endB s.ps s.a = false) (ha : s.a = k) (_hk : k < 1000) (hx : atI s.ps s.a.toNat = ⟨5, (i : Nat), (j : Nat), c⟩) (hi : i < 4) (hj : j < 4) :
    Calls Tryd.prog 24 #[.pointer (some ⟨p, 0, none⟩), .int .i64 y, .int .i64 19] w fun e w' => e = .returned (.tuple #[.agg #[.int .i64 s.no, .int .i64 k, .int .i64 5, .int .i64 s.wo, .int .i64 (s.r j), .int .i64 0, .int .i64 19], .int .i64 0]) ∧ Kc w' p v { s with r := s.r, a := (k : Int) + 1, ov := endB s.ps ((k : Int) + 1) } ∧ w.grownBy w' (some p) := by
  have H := Lib.hid h
  have HE := Lib.hid he
  have HX := Lib.hid hx
  have HA := Lib.hid ha
  clear h he hx ha
  go_enter Tryd.func24, Tryd.ntmps24
  go_wp2_with fail
  have hne := knext_ok p v s _ (H.out.ext (ext_alloc (.cells #[.int .i64 0, .int .i64 0, .int .i64 0, .int .i64 0, .int .i64 0, .int .i64 0, .int .i64 0] 42) (Below.refl _ w))) HE.out
  rw [HX.out] at hne
  refine hne.mono ?_
  clear hne
  rintro e w1 ⟨rfl, hb⟩
  go_upto_if 31 with (go_at_call 50; refine (memory_any 5 _).mono ?_; rintro e w9 ⟨rfl, hw⟩; subst hw)
  obtain ⟨W2, hW2⟩ : ∃ W2, W2 = w1.alloc (.cells #[.int .i64 5, .int .i64 (i : Nat), .int .i64 (j : Nat), .int .i64 c] 36) := ⟨_, rfl⟩
  have hbW : Below w1.heap.size w1 W2 := by rw [hW2]; exact ext_alloc _ (Below.refl _ _)
  have HB := Lib.hid (ext_trans (ext_alloc (.cells #[.int .i64 0, .int .i64 0, .int .i64 0, .int .i64 0, .int .i64 0, .int .i64 0, .int .i64 0] 42) (Below.refl _ w)) (ext_trans hb hbW))
  have hs1 : w.heap.size < w1.heap.size := by have := hb.size; simp at this; omega
  have HBX := Lib.hid ((hbW.block w.heap.size hs1).trans ((hb.block w.heap.size (by simp)).trans (alNew rfl)))
  have hxx : W2.heap[w1.heap.size]? = some (.cells #[.int .i64 5, .int .i64 (i : Nat), .int .i64 (j : Nat), .int .i64 c] 36 (0, 0)) := by rw [hW2]; exact alNew rfl
  have HXX := Lib.hid hxx
  obtain ⟨q0, q1, q2, q3, ql⟩ := ins_cells (x := ⟨5, (i : Nat), (j : Nat), c⟩) hxx
  dsimp only at q0 q1 q2 q3
  rw [← hW2]
  clear hb hbW hW2 hxx
  go_wp2_with fail
  clear q0 q1 q2 q3 ql
  have hev := kevent_any p v s ⟨5, (i : Nat), (j : Nat), c⟩ W2 (H.out.ext HB.out)
  rw [HA.out] at hev
  refine hev.mono ?_
  clear hev
  rintro e w3 ⟨rfl, hb⟩
  have HB3 := Lib.hid (ext_trans HB.out hb)
  have HK3 := Lib.hid (H.out.ext HB3.out)
  have HBX3 := Lib.hid ((hb.block _ (lt_of HBX.out)).trans HBX.out)
  obtain ⟨q0, q1, q2, q3, ql⟩ := ins_cells (x := ⟨5, (i : Nat), (j : Nat), c⟩) ((hb.block _ (lt_of HXX.out)).trans HXX.out)
  dsimp only at q0 q1 q2 q3
  have hpl := HK3.out.lt
  have hpf := HK3.out.free
  have k4 := HK3.out.cells.2.2.2.2.1
  rw [HA.out] at k4
  clear hb
  have r1 := HK3.out.reg i hi
  have r2 := HK3.out.reg j hj
  go_wp2_with fail
  go_region
  go_wp2_with fail
  refine (turn_any p v s ((k : Int) + 1) _ (HK3.out.ext (by (first | exact ext_drew (ext_drew (ext_drew (ext_alloc _ (Below.refl _ _)))) | exact ext_drew (ext_drew (ext_alloc _ (Below.refl _ _))) | exact ext_drew (ext_alloc _ (Below.refl _ _)) | exact ext_alloc _ (Below.refl _ _))))).mono ?_
  rintro e w5 ⟨⟨r, rfl⟩, hk5, hg5⟩
  have hV : w5.heap[w3.heap.size]? = some (.cells #[.int .i64 s.no, .int .i64 k, .int .i64 5, .int .i64 s.wo, .int .i64 (s.r j), .int .i64 0, .int .i64 19] 42 (0, 0)) := (hg5.block w3.heap.size (by simp) (by have := HK3.out.lt; simp; omega)).trans (alNew rfl)
  have hR : w5.heap[w.heap.size]? = some (.cells #[.int .i64 0, .int .i64 0, .int .i64 0, .int .i64 0, .int .i64 0, .int .i64 0, .int .i64 0] 42 (0, 0)) := (hg5.block w.heap.size (by have := lt_of HBX3.out; simp; omega) (by have := H.out.lt; simp; omega)).trans (alOld HBX3.out)
  have HG5 := Lib.hid (gr_B HB3.out (gr_two (by first | exact gr_drew (gr_drew (gr_drew (gr_alloc _ _))) | exact gr_drew (gr_drew (gr_alloc _ _)) | exact gr_drew (gr_alloc _ _) | exact gr_alloc _ _) hg5))
  have HK5 := Lib.hid hk5
  have HR := Lib.hid hR
  obtain ⟨v0, v1, v2, v3, v4, v5, v6, _, vl⟩ := ev_cells hV
  obtain ⟨b0, b1, b2, b3, b4, b5, b6, bf, bl⟩ := ev_cells hR
  clear hk5 hg5 hV hR
  go_wp2_with fail
  obtain ⟨W6, hW6⟩ : ∃ W6, W6 = set7 w5 w.heap.size (.int .i64 s.no) (.int .i64 k) (.int .i64 5) (.int .i64 s.wo) (.int .i64 (s.r j)) (.int .i64 0) (.int .i64 19) := ⟨_, rfl⟩
  have hbk := set7_blk (.int .i64 s.no) (.int .i64 k) (.int .i64 5) (.int .i64 s.wo) (.int .i64 (s.r j)) (.int .i64 0) (.int .i64 19) HR.out
  have hgr := set7_grown w5 w.heap.size (.int .i64 s.no) (.int .i64 k) (.int .i64 5) (.int .i64 s.wo) (.int .i64 (s.r j)) (.int .i64 0) (.int .i64 19)
  rw [← hW6] at hbk hgr
  unfold set7 at hW6
  rw [← hW6]
  obtain ⟨d0, d1, d2, d3, d4, d5, d6, df, dl⟩ := ev_cells hbk
  clear b0 b1 b2 b3 b4 b5 b6 bf bl
  (try simp only [Exit.inBlock, Exit.then]); refine bodyPost_ret (by simp [results, Tryd.results24, go_sem, d0, d1, d2, d3, d4, d5, d6]; try rfl) rfl ?_
  exact ⟨rfl, H.out.past HK5.out rfl hgr (Nat.le_refl _), gr_N HG5.out hgr (Nat.le_refl _)⟩

set_option maxRecDepth 100000 in
set_option maxHeartbeats 2000000 in
theorem kretire_call (p : Nat) (v : Value) (s : CoS) (k : Nat) (a y z : Int) (j l : Nat) (w : World) (h : Kc w p v s) (he : endB s.ps s.a = false) (ha : s.a = k) (_hk : k < 1000) (hx : atI s.ps s.a.toNat = ⟨8, a, (j : Nat), (l : Nat)⟩) (hj : j < 4) (hl : l < 4) :
    Calls Tryd.prog 24 #[.pointer (some ⟨p, 0, none⟩), .int .i64 y, .int .i64 z] w fun e w' => e = .returned (.tuple #[.agg #[.int .i64 s.no, .int .i64 k, .int .i64 8, .int .i64 s.wo, .int .i64 (s.r j), .int .i64 (s.r l), .int .i64 z], .int .i64 0]) ∧ Kc w' p v { s with r := upd s.r j z, a := (k : Int) + 1, ov := endB s.ps ((k : Int) + 1) } ∧ w.grownBy w' (some p) := by
  have H := Lib.hid h
  have HE := Lib.hid he
  have HX := Lib.hid hx
  have HA := Lib.hid ha
  clear h he hx ha
  go_enter Tryd.func24, Tryd.ntmps24
  go_wp2_with fail
  have hne := knext_ok p v s _ (H.out.ext (ext_alloc (.cells #[.int .i64 0, .int .i64 0, .int .i64 0, .int .i64 0, .int .i64 0, .int .i64 0, .int .i64 0] 42) (Below.refl _ w))) HE.out
  rw [HX.out] at hne
  refine hne.mono ?_
  clear hne
  rintro e w1 ⟨rfl, hb⟩
  go_upto_if 31 with (go_at_call 50; refine (memory_any 8 _).mono ?_; rintro e w9 ⟨rfl, hw⟩; subst hw)
  obtain ⟨W2, hW2⟩ : ∃ W2, W2 = w1.alloc (.cells #[.int .i64 8, .int .i64 a, .int .i64 (j : Nat), .int .i64 (l : Nat)] 36) := ⟨_, rfl⟩
  have hbW : Below w1.heap.size w1 W2 := by rw [hW2]; exact ext_alloc _ (Below.refl _ _)
  have HB := Lib.hid (ext_trans (ext_alloc (.cells #[.int .i64 0, .int .i64 0, .int .i64 0, .int .i64 0, .int .i64 0, .int .i64 0, .int .i64 0] 42) (Below.refl _ w)) (ext_trans hb hbW))
  have hs1 : w.heap.size < w1.heap.size := by have := hb.size; simp at this; omega
  have HBX := Lib.hid ((hbW.block w.heap.size hs1).trans ((hb.block w.heap.size (by simp)).trans (alNew rfl)))
  have hxx : W2.heap[w1.heap.size]? = some (.cells #[.int .i64 8, .int .i64 a, .int .i64 (j : Nat), .int .i64 (l : Nat)] 36 (0, 0)) := by rw [hW2]; exact alNew rfl
  have HXX := Lib.hid hxx
  obtain ⟨q0, q1, q2, q3, ql⟩ := ins_cells (x := ⟨8, a, (j : Nat), (l : Nat)⟩) hxx
  dsimp only at q0 q1 q2 q3
  rw [← hW2]
  clear hb hbW hW2 hxx
  go_wp2_with fail
  clear q0 q1 q2 q3 ql
  have hev := kevent_any p v s ⟨8, a, (j : Nat), (l : Nat)⟩ W2 (H.out.ext HB.out)
  rw [HA.out] at hev
  refine hev.mono ?_
  clear hev
  rintro e w3 ⟨rfl, hb⟩
  have HB3 := Lib.hid (ext_trans HB.out hb)
  have HK3 := Lib.hid (H.out.ext HB3.out)
  have HBX3 := Lib.hid ((hb.block _ (lt_of HBX.out)).trans HBX.out)
  obtain ⟨q0, q1, q2, q3, ql⟩ := ins_cells (x := ⟨8, a, (j : Nat), (l : Nat)⟩) ((hb.block _ (lt_of HXX.out)).trans HXX.out)
  dsimp only at q0 q1 q2 q3
  have hpl := HK3.out.lt
  have hpf := HK3.out.free
  have k4 := HK3.out.cells.2.2.2.2.1
  rw [HA.out] at k4
  clear hb
  have r1 := HK3.out.reg j hj
  have r2 := HK3.out.reg l hl
  go_wp2_with fail
  go_region
  go_wp2_with fail
  go_region
  go_wp2_with fail
  go_region
  go_wp2_with fail
  refine (turn_any p v { s with r := upd s.r j z } ((k : Int) + 1) _ ((HK3.out.setReg j hj (z)).ext (by (first | exact ext_drew (ext_drew (ext_drew (ext_alloc _ (Below.refl _ _)))) | exact ext_drew (ext_drew (ext_alloc _ (Below.refl _ _))) | exact ext_drew (ext_alloc _ (Below.refl _ _)) | exact ext_alloc _ (Below.refl _ _))))).mono ?_
  rintro e w5 ⟨⟨r, rfl⟩, hk5, hg5⟩
  have hV : w5.heap[w3.heap.size]? = some (.cells #[.int .i64 s.no, .int .i64 k, .int .i64 8, .int .i64 s.wo, .int .i64 (s.r j), .int .i64 (s.r l), .int .i64 z] 42 (0, 0)) := (hg5.block w3.heap.size (by simp) (by have := HK3.out.lt; simp; omega)).trans (alNew (by simp))
  have hR : w5.heap[w.heap.size]? = some (.cells #[.int .i64 0, .int .i64 0, .int .i64 0, .int .i64 0, .int .i64 0, .int .i64 0, .int .i64 0] 42 (0, 0)) := (hg5.block w.heap.size (by have := lt_of HBX3.out; simp; omega) (by have := H.out.lt; simp; omega)).trans (alOld ((Below.heap_setCell _ _ _ _ (show w.heap.size ≠ p by have := H.out.lt; omega)).trans HBX3.out))
  have HG5 := Lib.hid (gr_B HB3.out (gr_two (gr_two (sc_grown _ _ _ _) (by first | exact gr_drew (gr_drew (gr_drew (gr_alloc _ _))) | exact gr_drew (gr_drew (gr_alloc _ _)) | exact gr_drew (gr_alloc _ _) | exact gr_alloc _ _)) hg5))
  have HK5 := Lib.hid hk5
  have HR := Lib.hid hR
  obtain ⟨v0, v1, v2, v3, v4, v5, v6, _, vl⟩ := ev_cells hV
  obtain ⟨b0, b1, b2, b3, b4, b5, b6, bf, bl⟩ := ev_cells hR
  clear hk5 hg5 hV hR
  go_wp2_with fail
  obtain ⟨W6, hW6⟩ : ∃ W6, W6 = set7 w5 w.heap.size (.int .i64 s.no) (.int .i64 k) (.int .i64 8) (.int .i64 s.wo) (.int .i64 (s.r j)) (.int .i64 (s.r l)) (.int .i64 z) := ⟨_, rfl⟩
  have hbk := set7_blk (.int .i64 s.no) (.int .i64 k) (.int .i64 8) (.int .i64 s.wo) (.int .i64 (s.r j)) (.int .i64 (s.r l)) (.int .i64 z) HR.out
  have hgr := set7_grown w5 w.heap.size (.int .i64 s.no) (.int .i64 k) (.int .i64 8) (.int .i64 s.wo) (.int .i64 (s.r j)) (.int .i64 (s.r l)) (.int .i64 z)
  rw [← hW6] at hbk hgr
  unfold set7 at hW6
  rw [← hW6]
  obtain ⟨d0, d1, d2, d3, d4, d5, d6, df, dl⟩ := ev_cells hbk
  clear b0 b1 b2 b3 b4 b5 b6 bf bl
  (try simp only [Exit.inBlock, Exit.then]); refine bodyPost_ret (by simp [results, Tryd.results24, go_sem, d0, d1, d2, d3, d4, d5, d6]; try rfl) rfl ?_
  exact ⟨rfl, H.out.past HK5.out rfl hgr (Nat.le_refl _), gr_N HG5.out hgr (Nat.le_refl _)⟩

end Go.Proofs.YtkobeajbiendlaaDoor
