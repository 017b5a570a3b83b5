/- What this text holds: what a core asks of memory at a Load; the chapter's example of layer 15. Condition: the table of ops holds what its initialiser lays. -/
import Derived.Test.YtkobeajbiendlaaDoorCoreE
import Derived.Laws.StructEq
namespace Go.Proofs.YtkobeajbiendlaaDoor
open Go.RowKit

theorem four_cells {W : World} {b : Nat} {x0 x1 x2 x3 : Value} {t : TypeId} (h : W.heap[b]? = some (.cells #[x0, x1, x2, x3] t (0, 0))) :
    W.cell? ⟨b, 0, none⟩ = some x0 ∧ W.cell? ⟨b, 1, none⟩ = some x1 ∧ W.cell? ⟨b, 2, none⟩ = some x2 ∧ W.cell? ⟨b, 3, none⟩ = some x3 ∧ (∀ i, W.frozen? ⟨b, i, none⟩ = false) ∧ b < W.heap.size := by
  refine ⟨?_, ?_, ?_, ?_, fun i => ?_, lt_of h⟩ <;> simp [World.cell?, World.frozen?, h]
/-- Four stores. -/
def set4 (w : World) (b : Nat) (x0 x1 x2 x3 : Value) : World := (((w.setCell ⟨b, 0, none⟩ x0).setCell ⟨b, 1, none⟩ x1).setCell ⟨b, 2, none⟩ x2).setCell ⟨b, 3, none⟩ x3
theorem set4_blk {w : World} {b : Nat} {y0 y1 y2 y3 : Value} {t : TypeId} (x0 x1 x2 x3 : Value) (h : w.heap[b]? = some (.cells #[y0, y1, y2, y3] t (0, 0))) : (set4 w b x0 x1 x2 x3).heap[b]? = some (.cells #[x0, x1, x2, x3] t (0, 0)) := by
  have s0 := Joins.block_setCell (i := 0) h x0
  have s1 := Joins.block_setCell (i := 1) s0 x1
  have s2 := Joins.block_setCell (i := 2) s1 x2
  have s3 := Joins.block_setCell (i := 3) s2 x3
  unfold set4
  simpa using s3
theorem set4_grown (w : World) (b : Nat) (x0 x1 x2 x3 : Value) : w.grownBy (set4 w b x0 x1 x2 x3) (some b) :=
  gr_two (gr_two (gr_two (sc_grown _ _ _ _) (sc_grown _ _ _ _)) (sc_grown _ _ _ _)) (sc_grown _ _ _ _)

set_option maxRecDepth 100000 in
set_option maxHeartbeats 2000000 in
theorem kaccess_load (p : Nat) (v : Value) (s : CoS) (i j : Nat) (c : Int) (w : World) (h : Kc w p v s) (he : endB s.ps s.a = false) (hx : atI s.ps s.a.toNat = ⟨3, (i : Nat), (j : Nat), c⟩) (hj : j < 4) :
    Calls Tryd.prog 22 #[.pointer (some ⟨p, 0, none⟩)] w fun e w' => e = .returned (.tuple #[.agg #[.int .i64 (s.r j), .bool false, .bool true, .int .i64 0], .bool true]) ∧ Below w.heap.size w w' := by
  have H := Lib.hid h
  have HE := Lib.hid he
  have HX := Lib.hid hx
  clear h he hx
  go_enter Tryd.func22, Tryd.ntmps22
  go_wp2_with fail
  have hne := knext_ok p v s _ (H.out.ext (ext_alloc (.cells #[.int .i64 0, .bool false, .bool false, .int .i64 0] 50) (Below.refl _ w))) HE.out
  rw [HX.out] at hne
  refine hne.mono ?_
  clear hne
  rintro e w1 ⟨rfl, hb⟩
  have HBX1 := Lib.hid ((hb.block w.heap.size (by simp)).trans (alNew rfl))
  have HB1 := Lib.hid (ext_trans (ext_alloc (.cells #[.int .i64 0, .bool false, .bool false, .int .i64 0] 50) (Below.refl _ w)) hb)
  clear hb
  go_upto_if 19 with (go_at_call 50; refine (memory_any 3 _).mono ?_; rintro e w9 ⟨rfl, hw⟩; subst hw)
  obtain ⟨W2, hW2⟩ : ∃ W2, W2 = w1.alloc (.cells #[.int .i64 3, .int .i64 i, .int .i64 j, .int .i64 c] 36) := ⟨_, rfl⟩
  have hbW : Below w1.heap.size w1 W2 := by rw [hW2]; exact ext_alloc _ (Below.refl _ _)
  have HB := Lib.hid (ext_trans HB1.out hbW)
  have HBX := Lib.hid ((hbW.block w.heap.size (lt_of HBX1.out)).trans HBX1.out)
  have hxx : W2.heap[w1.heap.size]? = some (.cells #[.int .i64 3, .int .i64 i, .int .i64 j, .int .i64 c] 36 (0, 0)) := by rw [hW2]; exact alNew rfl
  obtain ⟨q0, q1, q2, q3, ql⟩ := ins_cells (x := ⟨3, i, j, c⟩) hxx
  dsimp only at q0 q1 q2 q3
  rw [← hW2]
  clear hbW hW2 hxx
  have HK := Lib.hid (H.out.ext HB.out)
  have r2 := HK.out.reg j hj
  have hpl := HK.out.lt
  obtain ⟨b0, b1, b2, b3, bf, bl⟩ := four_cells HBX.out
  go_wp2_with fail
  go_region
  go_wp2_with fail
  obtain ⟨W6, hW6⟩ : ∃ W6, W6 = ((set4 W2 w.heap.size (.int .i64 (s.r j)) (.bool false) (.bool true) (.int .i64 0)).alloc (.cells #[.int .i64 (s.r j), .bool false, .bool true, .int .i64 0] 50)).drew := ⟨_, rfl⟩
  have hbk := set4_blk (.int .i64 (s.r j)) (.bool false) (.bool true) (.int .i64 0) HBX.out
  have hgr := set4_grown W2 w.heap.size (.int .i64 (s.r j)) (.bool false) (.bool true) (.int .i64 0)
  have hb6 : W6.heap[w.heap.size]? = some (.cells #[.int .i64 (s.r j), .bool false, .bool true, .int .i64 0] 50 (0, 0)) := by rw [hW6]; exact alOld hbk
  have hg6 : W2.grownBy W6 (some w.heap.size) := by rw [hW6]; exact gr_drew (gr_two hgr (gr_alloc _ _))
  unfold set4 at hW6
  rw [← hW6]
  obtain ⟨d0, d1, d2, d3, df, dl⟩ := four_cells hb6
  clear b0 b1 b2 b3 bf bl
  (try simp only [Exit.inBlock, Exit.then]); refine bodyPost_ret (by simp [results, Tryd.results22, go_sem, d0, d1, d2, d3]; try rfl) rfl ?_
  exact ⟨rfl, HB.out.grown hg6 HB.out.size (fun k e => by cases e; exact Nat.le_refl _)⟩

def p15 : List Ins := [⟨1, 0, 5, 0⟩, ⟨3, 1, 0, 0⟩]
theorem p15_new : newE 0 1 p15 = 0 := by decide +kernel

set_option maxRecDepth 100000 in
set_option maxHeartbeats 4000000 in
theorem awake15 (w : World) (hO : Ops w) : Calls Tryd.prog 14 #[] w fun e w' => e = .returned (.bool true) ∧ Below w.heap.size w w' := by
  have HO := Lib.hid hO
  clear hO
  obtain ⟨W, hW⟩ : ∃ W, W = w.alloc (.cells #[.int .i64 1, .int .i64 0, .int .i64 5, .int .i64 0, .int .i64 3, .int .i64 1, .int .i64 0, .int .i64 0] 36) := ⟨_, rfl⟩
  have hbx : W.heap[w.heap.size]? = some (.cells #[.int .i64 1, .int .i64 0, .int .i64 5, .int .i64 0, .int .i64 3, .int .i64 1, .int .i64 0, .int .i64 0] 36 (0, 0)) := by rw [hW]; exact alNew rfl
  have hS : SlN W (some ⟨w.heap.size, 0, none⟩) p15 := fun _ => ⟨w.heap.size, 0, rfl, lt_of hbx, fun i hi => by
    have : i = 0 ∨ i = 1 := by simp [p15] at hi; omega
    rcases this with rfl | rfl
    · refine ⟨?_, ?_, ?_, ?_⟩ <;> simp [World.cell?, hbx, atI, p15]
    · refine ⟨?_, ?_, ?_, ?_⟩ <;> simp [World.cell?, hbx, atI, p15]⟩
  have HW := Lib.hid hW
  have HB := Lib.hid (show Below w.heap.size w W by rw [hW]; exact ext_alloc _ (Below.refl _ _))
  have hnew := knew_ok 0 1 (some ⟨w.heap.size, 0, none⟩) p15 2 W hS (fun e => by cases e) (HO.out.ext HB.out) p15_new
  rw [show endB p15 0 = false by decide] at hnew
  have HN := Lib.hid hnew
  clear hW hbx hS hnew
  go_enter Tryd.func14, Tryd.ntmps14
  go_wp2_with (rw [← HW.out])
  refine HN.out.mono ?_
  rintro e w1 ⟨p, v, rfl, hK, hp, hv, hb⟩
  have HK1 := Lib.hid hK
  have HB1 := Lib.hid (ext_trans HB.out hb)
  have HP := Lib.hid (Nat.le_trans HB.out.size hp)
  clear hK hp hv hb HN HW
  go_wp2_with fail
  refine (klocal_set p v _ 0 0 5 0 w1 HK1.out (by decide) rfl (by omega) rfl (by omega)).mono ?_
  rintro e w2 ⟨rfl, hK, hg⟩
  rw [show endB p15 (((0 : Nat) : Int) + 1) = false by decide] at hK
  have HK2 : Hid (Kc w2 p v ⟨upd (fun _ => 0) 0 5, 1, 1, false, 0, p15⟩) := Lib.hid hK
  have HB2 := Lib.hid (show Below w.heap.size w w2 from HB1.out.grown hg HB1.out.size (fun k e => by cases e; exact HP.out))
  clear hK hg
  go_wp2_with fail
  have hac := kaccess_load p v _ 1 0 0 _ (HK2.out.ext (ext_alloc (.cells #[.int .i64 0, .int .i64 0, .int .i64 1, .int .i64 1, .int .i64 0, .int .i64 5, .int .i64 0] 42) (Below.refl _ w2))) (by decide) rfl (by omega)
  rw [show (⟨upd (fun _ => 0) 0 5, 1, 1, false, 0, p15⟩ : CoS).r 0 = 5 from rfl] at hac
  refine hac.mono ?_
  clear hac
  rintro e w3 ⟨rfl, hb⟩
  have HX3 := Lib.hid ((hb.block w2.heap.size (by simp)).trans (alNew rfl))
  have HK3 := Lib.hid ((HK2.out.ext (ext_alloc (.cells #[.int .i64 0, .int .i64 0, .int .i64 1, .int .i64 1, .int .i64 0, .int .i64 5, .int .i64 0] 42) (Below.refl _ w2))).ext hb)
  have HB3 := Lib.hid (ext_trans HB2.out (ext_trans (ext_alloc (.cells #[.int .i64 0, .int .i64 0, .int .i64 1, .int .i64 1, .int .i64 0, .int .i64 5, .int .i64 0] 42) (Below.refl _ w2)) hb))
  clear hb
  go_wp2_with fail
  have hre := kretire_ok3 p v _ 1 1 0 0 9 _ (HK3.out.ext (ext_alloc (.cells #[.int .i64 5, .bool false, .bool true, .int .i64 0] 50) (Below.refl _ w3))) (by decide) rfl (by omega) rfl (by omega) (by omega)
  refine hre.mono ?_
  clear hre
  rintro e w4 ⟨rfl, hK, hg⟩
  rw [show endB p15 (((1 : Nat) : Int) + 1) = true by decide] at hK
  have HK4 : Hid (Kc w4 p v ⟨upd (upd (fun _ => 0) 0 5) 1 9, 2, 1, true, 0, p15⟩) := Lib.hid hK
  have hX4 := (hg.block w2.heap.size (by have := lt_of HX3.out; simp; omega) (by have := HK2.out.lt; simp; omega)).trans (alOld HX3.out)
  have hA4 : w4.heap[w3.heap.size]? = _ := (hg.block w3.heap.size (by simp) (by have := HK3.out.lt; simp; omega)).trans (alNew rfl)
  have HB4 := Lib.hid (show Below w.heap.size w w4 from (ext_trans HB3.out (ext_alloc (.cells #[.int .i64 5, .bool false, .bool true, .int .i64 0] 50) (Below.refl _ w3))).grown hg (ext_trans HB3.out (ext_alloc (.cells #[.int .i64 5, .bool false, .bool true, .int .i64 0] 50) (Below.refl _ w3))).size (fun k e => by cases e; exact HP.out))
  obtain ⟨x0, x1, x2, x3, x4, x5, x6, xf, xl⟩ := ev_cells hX4
  obtain ⟨a0, a1, a2, a3, af, al⟩ := four_cells hA4
  have k1 : w4.cell? ⟨p, 1, none⟩ = some (.int .i64 9) := HK4.out.cells.2.1
  have k6 : w4.cell? ⟨p, 6, none⟩ = some (.bool true) := HK4.out.cells.2.2.2.2.2.2.1
  have kl := HK4.out.lt
  clear hK hg hX4 hA4
  go_wp2_with fail
  go_ret
  exact ⟨rfl, ext_trans HB4.out (ext_alloc _ (Below.refl _ _))⟩

/-- A nil core. -/
theorem klocal_nil (w : World) : Calls Tryd.prog 19 #[.pointer none] w fun e w' => e = .returned (.tuple #[.agg #[.int .i64 0, .int .i64 0, .int .i64 0, .int .i64 0, .int .i64 0, .int .i64 0, .int .i64 0], .bool false]) ∧ Below w.heap.size w w' := by
  go_enter Tryd.func19, Tryd.ntmps19
  go_wp2_with fail
  refine (knext_nil _).mono ?_
  rintro e w1 ⟨rfl, hb⟩
  go_upto_if 14 with (fail)
  obtain ⟨W2, hW2⟩ : ∃ W2, W2 = w1.alloc (.cells #[.int .i64 0, .int .i64 0, .int .i64 0, .int .i64 0] 36) := ⟨_, rfl⟩
  have hbW : Below w1.heap.size w1 W2 := by rw [hW2]; exact ext_alloc _ (Below.refl _ _)
  have HB := Lib.hid (ext_trans (ext_alloc (.cells #[.int .i64 0, .int .i64 0, .int .i64 0, .int .i64 0, .int .i64 0, .int .i64 0, .int .i64 0] 42) (Below.refl _ w)) (ext_trans hb hbW))
  have hbx := (hbW.block w.heap.size (by have := hb.size; simp at this; omega)).trans ((hb.block w.heap.size (by simp)).trans (alNew rfl))
  have HBX := Lib.hid hbx
  obtain ⟨b0, b1, b2, b3, b4, b5, b6, bf, bl⟩ := ev_cells hbx
  rw [← hW2]
  clear hb hbx hbW hW2
  go_wp2_with fail
  obtain ⟨W3, hW3⟩ : ∃ W3, W3 = set7 W2 w.heap.size (.int .i64 0) (.int .i64 0) (.int .i64 0) (.int .i64 0) (.int .i64 0) (.int .i64 0) (.int .i64 0) := ⟨_, rfl⟩
  have hbk := set7_blk (.int .i64 0) (.int .i64 0) (.int .i64 0) (.int .i64 0) (.int .i64 0) (.int .i64 0) (.int .i64 0) HBX.out
  have hgr := set7_grown W2 w.heap.size (.int .i64 0) (.int .i64 0) (.int .i64 0) (.int .i64 0) (.int .i64 0) (.int .i64 0) (.int .i64 0)
  rw [← hW3] at hbk hgr
  unfold set7 at hW3
  rw [← hW3]
  obtain ⟨d0, d1, d2, d3, d4, d5, d6, df, dl⟩ := ev_cells hbk
  clear b0 b1 b2 b3 b4 b5 b6 bf bl
  (try simp only [Exit.inBlock, Exit.then]); refine bodyPost_ret (by simp [results, Tryd.results19, go_sem, d0, d1, d2, d3, d4, d5, d6]; try rfl) rfl ?_
  exact ⟨rfl, HB.out.grown hgr HB.out.size (fun k e => by cases e; exact Nat.le_refl _)⟩
theorem kaccess_nil (w : World) : Calls Tryd.prog 22 #[.pointer none] w fun e w' => e = .returned (.tuple #[.agg #[.int .i64 0, .bool false, .bool false, .int .i64 0], .bool false]) ∧ Below w.heap.size w w' := by
  go_enter Tryd.func22, Tryd.ntmps22
  go_wp2_with fail
  refine (knext_nil _).mono ?_
  rintro e w1 ⟨rfl, hb⟩
  go_upto_if 19 with (fail)
  obtain ⟨W2, hW2⟩ : ∃ W2, W2 = w1.alloc (.cells #[.int .i64 0, .int .i64 0, .int .i64 0, .int .i64 0] 36) := ⟨_, rfl⟩
  have hbW : Below w1.heap.size w1 W2 := by rw [hW2]; exact ext_alloc _ (Below.refl _ _)
  have HB := Lib.hid (ext_trans (ext_alloc (.cells #[.int .i64 0, .bool false, .bool false, .int .i64 0] 50) (Below.refl _ w)) (ext_trans hb hbW))
  have hbx := (hbW.block w.heap.size (by have := hb.size; simp at this; omega)).trans ((hb.block w.heap.size (by simp)).trans (alNew rfl))
  have HBX := Lib.hid hbx
  obtain ⟨b0, b1, b2, b3, bf, bl⟩ := four_cells hbx
  rw [← hW2]
  clear hb hbx hbW hW2
  go_wp2_with fail
  obtain ⟨W3, hW3⟩ : ∃ W3, W3 = set4 W2 w.heap.size (.int .i64 0) (.bool false) (.bool false) (.int .i64 0) := ⟨_, rfl⟩
  have hbk := set4_blk (.int .i64 0) (.bool false) (.bool false) (.int .i64 0) HBX.out
  have hgr := set4_grown W2 w.heap.size (.int .i64 0) (.bool false) (.bool false) (.int .i64 0)
  rw [← hW3] at hbk hgr
  unfold set4 at hW3
  rw [← hW3]
  obtain ⟨d0, d1, d2, d3, df, dl⟩ := four_cells hbk
  clear b0 b1 b2 b3 bf bl
  (try simp only [Exit.inBlock, Exit.then]); refine bodyPost_ret (by simp [results, Tryd.results22, go_sem, d0, d1, d2, d3]; try rfl) rfl ?_
  exact ⟨rfl, HB.out.grown hgr HB.out.size (fun k e => by cases e; exact Nat.le_refl _)⟩
theorem kretire_nil (x y : Int) (w : World) : Calls Tryd.prog 24 #[.pointer none, .int .i64 x, .int .i64 y] w fun e w' => e = .returned (.tuple #[.agg #[.int .i64 0, .int .i64 0, .int .i64 0, .int .i64 0, .int .i64 0, .int .i64 0, .int .i64 0], .int .i64 2]) ∧ Below w.heap.size w w' := by
  go_enter Tryd.func24, Tryd.ntmps24
  go_wp2
  (try simp only [Exit.inBlock, Exit.then]); refine bodyPost_ret (by simp [results, Tryd.results24, go_sem]; try rfl) rfl ?_
  exact ⟨rfl, (by repeat (with_reducible first | exact Below.refl _ _ | assumption | (refine ext_next (by assumption) ?_) | apply ext_alloc | apply ext_past | apply ext_drew | apply ext_drewN))⟩
theorem ktwin_nil (w : World) : Calls Tryd.prog 17 #[.pointer none] w fun e w' => e = .returned (.pointer none) ∧ Below w.heap.size w w' := by
  go_enter Tryd.func17, Tryd.ntmps17
  go_wp2
  go_ret
  exact ⟨rfl, (by repeat (with_reducible first | exact Below.refl _ _ | assumption | (refine ext_next (by assumption) ?_) | apply ext_alloc | apply ext_past | apply ext_drew | apply ext_drewN))⟩
set_option maxHeartbeats 1000000 in
theorem krun_nil (n : Int) (w : World) : Calls Tryd.prog 18 #[.pointer none, .int .i64 n] w fun e w' => e = .returned (.slice none 0 0) ∧ Below w.heap.size w w' := by
  by_cases h : 0 < n
  · have e0 : decide ((0 : Int) < n) = true := by simpa using h
    go_enter Tryd.func18, Tryd.ntmps18
    go_wp2_with fail
    go_step3
    go_wp2_with fail
    go_step3
    go_wp2_with fail
    go_loopg [5] 1 (fun g s5 wr => g = 1 ∧ s5 = .slice none 0 0 ∧ wr = w)
    case atStart => exact ⟨rfl, rfl, rfl⟩
    case round =>
      obtain ⟨rfl, rfl, rfl⟩ := hrel
      go_wp2_with fail
      refine (klocal_nil _).mono ?_
      rintro e w1 ⟨rfl, hb⟩
      have HB := Lib.hid hb
      clear hb
      go_wp2_with fail
      rw [Exit.noGoto_ret]
      go_ret
      exact ⟨rfl, ext_trans HB.out (ext_alloc _ (Below.refl _ _))⟩
  · have e0 : decide ((0 : Int) < n) = false := by simpa using h
    go_enter Tryd.func18, Tryd.ntmps18
    go_wp2_with fail
    go_step3
    go_wp2_with fail
    go_step3
    go_wp2_with fail
    go_loopg [5] 1 (fun g s5 wr => g = 1 ∧ s5 = .slice none 0 0 ∧ wr = w)
    case atStart => exact ⟨rfl, rfl, rfl⟩
    case round =>
      obtain ⟨rfl, rfl, rfl⟩ := hrel
      go_wp2_with fail
      rw [Exit.noGoto_ret]
      go_ret
      exact ⟨rfl, Below.refl _ _⟩

theorem five_cells {W : World} {b : Nat} {x0 x1 x2 x3 x4 : Value} {t : TypeId} (h : W.heap[b]? = some (.cells #[x0, x1, x2, x3, x4] t (0, 0))) :
    W.cell? ⟨b, 0, none⟩ = some x0 ∧ W.cell? ⟨b, 1, none⟩ = some x1 ∧ W.cell? ⟨b, 2, none⟩ = some x2 ∧ W.cell? ⟨b, 3, none⟩ = some x3 ∧ W.cell? ⟨b, 4, none⟩ = some x4 ∧ (∀ i, W.frozen? ⟨b, i, none⟩ = false) ∧ b < W.heap.size := by
  refine ⟨?_, ?_, ?_, ?_, ?_, fun i => ?_, lt_of h⟩ <;> simp [World.cell?, World.frozen?, h]
theorem kask_nil (w : World) : Calls Tryd.prog 23 #[.pointer none] w fun e w' => e = .returned (.tuple #[.agg #[.int .i64 0, .int .i64 0, .int .i64 0, .int .i64 0, .int .i64 0], .bool false]) ∧ Below w.heap.size w w' := by
  go_enter Tryd.func23, Tryd.ntmps23
  go_wp2_with fail
  refine (knext_nil _).mono ?_
  rintro e w1 ⟨rfl, hb⟩
  go_upto_if 17 with (fail)
  obtain ⟨W2, hW2⟩ : ∃ W2, W2 = w1.alloc (.cells #[.int .i64 0, .int .i64 0, .int .i64 0, .int .i64 0] 36) := ⟨_, rfl⟩
  have hbW : Below w1.heap.size w1 W2 := by rw [hW2]; exact ext_alloc _ (Below.refl _ _)
  have HB := Lib.hid (ext_trans (ext_alloc (.cells #[.int .i64 0, .int .i64 0, .int .i64 0, .int .i64 0, .int .i64 0] 54) (Below.refl _ w)) (ext_trans hb hbW))
  have hbx := (hbW.block w.heap.size (by have := hb.size; simp at this; omega)).trans ((hb.block w.heap.size (by simp)).trans (alNew rfl))
  have HBX := Lib.hid hbx
  obtain ⟨b0, b1, b2, b3, b4, bf, bl⟩ := five_cells hbx
  rw [← hW2]
  clear hb hbx hbW hW2
  go_wp2_with fail
  obtain ⟨W3, hW3⟩ : ∃ W3, W3 = (set4 W2 w.heap.size (.int .i64 0) (.int .i64 0) (.int .i64 0) (.int .i64 0)).setCell ⟨w.heap.size, 4, none⟩ (.int .i64 0) := ⟨_, rfl⟩
  have hgr : W2.grownBy W3 (some w.heap.size) := by rw [hW3]; exact gr_two (set4_grown _ _ _ _ _ _) (sc_grown _ _ _ _)
  have hbk : W3.heap[w.heap.size]? = some (.cells #[.int .i64 0, .int .i64 0, .int .i64 0, .int .i64 0, .int .i64 0] 54 (0, 0)) := by
    have s0 := Joins.block_setCell (i := 0) HBX.out (.int .i64 0)
    have s1 := Joins.block_setCell (i := 1) s0 (.int .i64 0)
    have s2 := Joins.block_setCell (i := 2) s1 (.int .i64 0)
    have s3 := Joins.block_setCell (i := 3) s2 (.int .i64 0)
    have s4 := Joins.block_setCell (i := 4) s3 (.int .i64 0)
    rw [hW3]
    unfold set4
    simpa using s4
  unfold set4 at hW3
  rw [← hW3]
  obtain ⟨d0, d1, d2, d3, d4, df, dl⟩ := five_cells hbk
  clear b0 b1 b2 b3 b4 bf bl
  (try simp only [Exit.inBlock, Exit.then]); refine bodyPost_ret (by simp [results, Tryd.results23, go_sem, d0, d1, d2, d3, d4]; try rfl) rfl ?_
  exact ⟨rfl, HB.out.grown hgr HB.out.size (fun k e => by cases e; exact Nat.le_refl _)⟩

end Go.Proofs.YtkobeajbiendlaaDoor
