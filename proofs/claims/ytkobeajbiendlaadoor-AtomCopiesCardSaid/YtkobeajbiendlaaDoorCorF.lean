/- What this text holds: what a core asks of memory at a Load; the chapter's example of layer 15. Condition: the table of ops holds what its initialiser lays. What this text holds: what a core does by itself, again and again; a twin of it. No condition. -/
import Derived.Test.YtkobeajbiendlaaDoorCoreE
import Derived.Laws.StructEq
namespace Go.Proofs.YtkobeajbiendlaaDoor
open Go.RowKit

theorem four_cells {W : World} {b : Nat} {x0 x1 x2 x3 : Value} {t : TypeId} (h : W.heap[b]? = some (.cells #[x0, x1, x2, x3] t (0, 0))) :
    W.cell? ⟨b, 0, none⟩ = some x0 ∧ W.cell? ⟨b, 1, none⟩ = some x1 ∧ W.cell? ⟨b, 2, none⟩ = some x2 ∧ W.cell? ⟨b, 3, none⟩ = some x3 ∧ (∀ i, W.frozen? ⟨b, i, none⟩ = false) ∧ b < W.heap.size := by
  refine ⟨?_, ?_, ?_, ?_, fun i => ?_, lt_of h⟩ <;> simp [World.cell?, World.frozen?, h]
/-- Four stores. -/
def set4 (w : World) (b : Nat) (x0 x1 x2 x3 : Value) : World := (((w.setCell ⟨b, 0, none⟩ x0).setCell ⟨b, 1, none⟩ x1).setCell ⟨b, 2, none⟩ x2).setCell ⟨b, 3, none⟩ x3
theorem set4_blk {w : World} {b : Nat} {y0 y1 y2 y3 : Value} {t : TypeId} (x0 x1 x2 x3 : Value) (h : w.heap[b]? = some (.cells #[y0, y1, y2, y3] t (0, 0))) : (set4 w b x0 x1 x2 x3).heap[b]? = some (.cells #[x0, x1, x2, x3] t (0, 0)) := by
  have s0 := Joins.block_setCell (i := 0) h x0
  have s1 := Joins.block_setCell (i := 1) s0 x1
  have s2 := Joins.block_setCell (i := 2) s1 x2
  have s3 := Joins.block_setCell (i := 3) s2 x3
  unfold set4
  simpa using s3
theorem set4_grown (w : World) (b : Nat) (x0 x1 x2 x3 : Value) : w.grownBy (set4 w b x0 x1 x2 x3) (some b) :=
  gr_two (gr_two (gr_two (sc_grown _ _ _ _) (sc_grown _ _ _ _)) (sc_grown _ _ _ _)) (sc_grown _ _ _ _)

set_option maxRecDepth 100000 in
set_option maxHeartbeats 2000000 in
theorem kaccess_load (p : Nat) (v : Value) (s : CoS) (i j : Nat) (c : Int) (w : World) (h : Kc w p v s) (he : endB s.ps s.a = false) (hx : atI s.ps s.a.toNat = ⟨3, (i : Nat), (j : Nat), c⟩) (hj : j < 4) :
    Calls Tryd.prog 22 #[.pointer (some ⟨p, 0, none⟩)] w fun e w' => e = .returned (.tuple #[.agg #[.int .i64 (s.r j), .bool false, .bool true, .int .i64 0], .bool true]) ∧ Below w.heap.size w w' := by
  have H := Lib.hid h
  have HE := Lib.hid he
  have HX := Lib.hid hx
  clear h he hx
  go_enter Tryd.func22, Tryd.ntmps22
  go_wp2_with fail
  have hne := knext_ok p v s _ (H.out.ext (ext_alloc (.cells #[.int .i64 0, .bool false, .bool false, .int .i64 0] 50) (Below.refl _ w))) HE.out
  rw [HX.out] at hne
  refine hne.mono ?_
  clear hne
  rintro e w1 ⟨rfl, hb⟩
  have HBX1 := Lib.hid ((hb.block w.heap.size (by simp)).trans (alNew rfl))
  have HB1 := Lib.hid (ext_trans (ext_alloc (.cells #[.int .i64 0, .bool false, .bool false, .int .i64 0] 50) (Below.refl _ w)) hb)
  clear hb
  go_upto_if 19 with (go_at_call 50; refine (memory_any 3 _).mono ?_; rintro e w9 ⟨rfl, hw⟩; subst hw)
  obtain ⟨W2, hW2⟩ : ∃ W2, W2 = w1.alloc (.cells #[.int .i64 3, .int .i64 i, .int .i64 j, .int .i64 c] 36) := ⟨_, rfl⟩
  have hbW : Below w1.heap.size w1 W2 := by rw [hW2]; exact ext_alloc _ (Below.refl _ _)
  have HB := Lib.hid (ext_trans HB1.out hbW)
  have HBX := Lib.hid ((hbW.block w.heap.size (lt_of HBX1.out)).trans HBX1.out)
  have hxx : W2.heap[w1.heap.size]? = some (.cells #[.int .i64 3, .int .i64 i, .int .i64 j, .int .i64 c] 36 (0, 0)) := by rw [hW2]; exact alNew rfl
  obtain ⟨q0, q1, q2, q3, ql⟩ := ins_cells (x := ⟨3, i, j, c⟩) hxx
  dsimp only at q0 q1 q2 q3
  rw [← hW2]
  clear hbW hW2 hxx
  have HK := Lib.hid (H.out.ext HB.out)
  have r2 := HK.out.reg j hj
  have hpl := HK.out.lt
  obtain ⟨b0, b1, b2, b3, bf, bl⟩ := four_cells HBX.out
  go_wp2_with fail
  go_region
  go_wp2_with fail
  obtain ⟨W6, hW6⟩ : ∃ W6, W6 = ((set4 W2 w.heap.size (.int .i64 (s.r j)) (.bool false) (.bool true) (.int .i64 0)).alloc (.cells #[.int .i64 (s.r j), .bool false, .bool true, .int .i64 0] 50)).drew := ⟨_, rfl⟩
  have hbk := set4_blk (.int .i64 (s.r j)) (.bool false) (.bool true) (.int .i64 0) HBX.out
  have hgr := set4_grown W2 w.heap.size (.int .i64 (s.r j)) (.bool false) (.bool true) (.int .i64 0)
  have hb6 : W6.heap[w.heap.size]? = some (.cells #[.int .i64 (s.r j), .bool false, .bool true, .int .i64 0] 50 (0, 0)) := by rw [hW6]; exact alOld hbk
  have hg6 : W2.grownBy W6 (some w.heap.size) := by rw [hW6]; exact gr_drew (gr_two hgr (gr_alloc _ _))
  unfold set4 at hW6
  rw [← hW6]
  obtain ⟨d0, d1, d2, d3, df, dl⟩ := four_cells hb6
  clear b0 b1 b2 b3 bf bl
  (try simp only [Exit.inBlock, Exit.then]); refine bodyPost_ret (by simp [results, Tryd.results22, go_sem, d0, d1, d2, d3]; try rfl) rfl ?_
  exact ⟨rfl, HB.out.grown hg6 HB.out.size (fun k e => by cases e; exact Nat.le_refl _)⟩

def p15 : List Ins := [⟨1, 0, 5, 0⟩, ⟨3, 1, 0, 0⟩]
theorem p15_new : newE 0 1 p15 = 0 := by decide +kernel

set_option maxRecDepth 100000 in
set_option maxHeartbeats 4000000 in
theorem awake15 (w : World) (hO : Ops w) : Calls Tryd.prog 14 #[] w fun e w' => e = .returned (.bool true) ∧ Below w.heap.size w w' := by
  have HO := Lib.hid hO
  clear hO
  obtain ⟨W, hW⟩ : ∃ W, W = w.alloc (.cells #[.int .i64 1, .int .i64 0, .int .i64 5, .int .i64 0, .int .i64 3, .int .i64 1, .int .i64 0, .int .i64 0] 36) := ⟨_, rfl⟩
  have hbx : W.heap[w.heap.size]? = some (.cells #[.int .i64 1, .int .i64 0, .int .i64 5, .int .i64 0, .int .i64 3, .int .i64 1, .int .i64 0, .int .i64 0] 36 (0, 0)) := by rw [hW]; exact alNew rfl
  have hS : SlN W (some ⟨w.heap.size, 0, none⟩) p15 := fun _ => ⟨w.heap.size, 0, rfl, lt_of hbx, fun i hi => by
    have : i = 0 ∨ i = 1 := by simp [p15] at hi; omega
    rcases this with rfl | rfl
    · refine ⟨?_, ?_, ?_, ?_⟩ <;> simp [World.cell?, hbx, atI, p15]
    · refine ⟨?_, ?_, ?_, ?_⟩ <;> simp [World.cell?, hbx, atI, p15]⟩
  have HW := Lib.hid hW
  have HB := Lib.hid (show Below w.heap.size w W by rw [hW]; exact ext_alloc _ (Below.refl _ _))
  have hnew := knew_ok 0 1 (some ⟨w.heap.size, 0, none⟩) p15 2 W hS (fun e => by cases e) (HO.out.ext HB.out) p15_new
  rw [show endB p15 0 = false by decide] at hnew
  have HN := Lib.hid hnew
  clear hW hbx hS hnew
  go_enter Tryd.func14, Tryd.ntmps14
  go_wp2_with (rw [← HW.out])
  refine HN.out.mono ?_
  rintro e w1 ⟨p, v, rfl, hK, hp, hv, hb⟩
  have HK1 := Lib.hid hK
  have HB1 := Lib.hid (ext_trans HB.out hb)
  have HP := Lib.hid (Nat.le_trans HB.out.size hp)
  clear hK hp hv hb HN HW
  go_wp2_with fail
  refine (klocal_set p v _ 0 0 5 0 w1 HK1.out (by decide) rfl (by omega) rfl (by omega)).mono ?_
  rintro e w2 ⟨rfl, hK, hg⟩
  rw [show endB p15 (((0 : Nat) : Int) + 1) = false by decide] at hK
  have HK2 : Hid (Kc w2 p v ⟨upd (fun _ => 0) 0 5, 1, 1, false, 0, p15⟩) := Lib.hid hK
  have HB2 := Lib.hid (show Below w.heap.size w w2 from HB1.out.grown hg HB1.out.size (fun k e => by cases e; exact HP.out))
  clear hK hg
  go_wp2_with fail
  have hac := kaccess_load p v _ 1 0 0 _ (HK2.out.ext (ext_alloc (.cells #[.int .i64 0, .int .i64 0, .int .i64 1, .int .i64 1, .int .i64 0, .int .i64 5, .int .i64 0] 42) (Below.refl _ w2))) (by decide) rfl (by omega)
  rw [show (⟨upd (fun _ => 0) 0 5, 1, 1, false, 0, p15⟩ : CoS).r 0 = 5 from rfl] at hac
  refine hac.mono ?_
  clear hac
  rintro e w3 ⟨rfl, hb⟩
  have HX3 := Lib.hid ((hb.block w2.heap.size (by simp)).trans (alNew rfl))
  have HK3 := Lib.hid ((HK2.out.ext (ext_alloc (.cells #[.int .i64 0, .int .i64 0, .int .i64 1, .int .i64 1, .int .i64 0, .int .i64 5, .int .i64 0] 42) (Below.refl _ w2))).ext hb)
  have HB3 := Lib.hid (ext_trans HB2.out (ext_trans (ext_alloc (.cells #[.int .i64 0, .int .i64 0, .int .i64 1, .int .i64 1, .int .i64 0, .int .i64 5, .int .i64 0] 42) (Below.refl _ w2)) hb))
  clear hb
  go_wp2_with fail
  have hre := kretire_ok3 p v _ 1 1 0 0 9 _ (HK3.out.ext (ext_alloc (.cells #[.int .i64 5, .bool false, .bool true, .int .i64 0] 50) (Below.refl _ w3))) (by decide) rfl (by omega) rfl (by omega) (by omega)
  refine hre.mono ?_
  clear hre
  rintro e w4 ⟨rfl, hK, hg⟩
  rw [show endB p15 (((1 : Nat) : Int) + 1) = true by decide] at hK
  have HK4 : Hid (Kc w4 p v ⟨upd (upd (fun _ => 0) 0 5) 1 9, 2, 1, true, 0, p15⟩) := Lib.hid hK
  have hX4 := (hg.block w2.heap.size (by have := lt_of HX3.out; simp; omega) (by have := HK2.out.lt; simp; omega)).trans (alOld HX3.out)
  have hA4 : w4.heap[w3.heap.size]? = _ := (hg.block w3.heap.size (by simp) (by have := HK3.out.lt; simp; omega)).trans (alNew rfl)
  have HB4 := Lib.hid (show Below w.heap.size w w4 from (ext_trans HB3.out (ext_alloc (.cells #[.int .i64 5, .bool false, .bool true, .int .i64 0] 50) (Below.refl _ w3))).grown hg (ext_trans HB3.out (ext_alloc (.cells #[.int .i64 5, .bool false, .bool true, .int .i64 0] 50) (Below.refl _ w3))).size (fun k e => by cases e; exact HP.out))
  obtain ⟨x0, x1, x2, x3, x4, x5, x6, xf, xl⟩ := ev_cells hX4
  obtain ⟨a0, a1, a2, a3, af, al⟩ := four_cells hA4
  have k1 : w4.cell? ⟨p, 1, none⟩ = some (.int .i64 9) := HK4.out.cells.2.1
  have k6 : w4.cell? ⟨p, 6, none⟩ = some (.bool true) := HK4.out.cells.2.2.2.2.2.2.1
  have kl := HK4.out.lt
  clear hK hg hX4 hA4
  go_wp2_with fail
  go_ret
  exact ⟨rfl, ext_trans HB4.out (ext_alloc _ (Below.refl _ _))⟩

/-- A nil core. -/
theorem klocal_nil (w : World) : Calls Tryd.prog 19 #[.pointer none] w fun e w' => e = .returned (.tuple #[.agg #[.int .i64 0, .int .i64 0, .int .i64 0, .int .i64 0, .int .i64 0, .int .i64 0, .int .i64 0], .bool false]) ∧ Below w.heap.size w w' := by
  go_enter Tryd.func19, Tryd.ntmps19
  go_wp2_with fail
  refine (knext_nil _).mono ?_
  rintro e w1 ⟨rfl, hb⟩
  go_upto_if 14 with (fail)
  obtain ⟨W2, hW2⟩ : ∃ W2, W2 = w1.alloc (.cells #[.int .i64 0, .int .i64 0, .int .i64 0, .int .i64 0] 36) := ⟨_, rfl⟩
  have hbW : Below w1.heap.size w1 W2 := by rw [hW2]; exact ext_alloc _ (Below.refl _ _)
  have HB := Lib.hid (ext_trans (ext_alloc (.cells #[.int .i64 0, .int .i64 0, .int .i64 0, .int .i64 0, .int .i64 0, .int .i64 0, .int .i64 0] 42) (Below.refl _ w)) (ext_trans hb hbW))
  have hbx := (hbW.block w.heap.size (by have := hb.size; simp at this; omega)).trans ((hb.block w.heap.size (by simp)).trans (alNew rfl))
  have HBX := Lib.hid hbx
  obtain ⟨b0, b1, b2, b3, b4, b5, b6, bf, bl⟩ := ev_cells hbx
  rw [← hW2]
  clear hb hbx hbW hW2
  go_wp2_with fail
  obtain ⟨W3, hW3⟩ : ∃ W3, W3 = set7 W2 w.heap.size (.int .i64 0) (.int .i64 0) (.int .i64 0) (.int .i64 0) (.int .i64 0) (.int .i64 0) (.int .i64 0) := ⟨_, rfl⟩
  have hbk := set7_blk (.int .i64 0) (.int .i64 0) (.int .i64 0) (.int .i64 0) (.int .i64 0) (.int .i64 0) (.int .i64 0) HBX.out
  have hgr := set7_grown W2 w.heap.size (.int .i64 0) (.int .i64 0) (.int .i64 0) (.int .i64 0) (.int .i64 0) (.int .i64 0) (.int .i64 0)
  rw [← hW3] at hbk hgr
  unfold set7 at hW3
  rw [← hW3]
  obtain ⟨d0, d1, d2, d3, d4, d5, d6, df, dl⟩ := ev_cells hbk
  clear b0 b1 b2 b3 b4 b5 b6 bf bl
  (try simp only [Exit.inBlock, Exit.then]); refine bodyPost_ret (by simp [results, Tryd.results19, go_sem, d0, d1, d2, d3, d4, d5, d6]; try rfl) rfl ?_
  exact ⟨rfl, HB.out.grown hgr HB.out.size (fun k e => by cases e; exact Nat.le_refl _)⟩
theorem kaccess_nil (w : World) : Calls Tryd.prog 22 #[.pointer none] w fun e w' => e = .returned (.tuple #[.agg #[.int .i64 0, .bool false, .bool false, .int .i64 0], .bool false]) ∧ Below w.heap.size w w' := by
  go_enter Tryd.func22, Tryd.ntmps22
  go_wp2_with fail
  refine (knext_nil _).mono ?_
  rintro e w1 ⟨rfl, hb⟩
  go_upto_if 19 with (fail)
  obtain ⟨W2, hW2⟩ : ∃ W2, W2 = w1.alloc (.cells #[.int .i64 0, .int .i64 0, .int .i64 0, .int .i64 0] 36) := ⟨_, rfl⟩
  have hbW : Below w1.heap.size w1 W2 := by rw [hW2]; exact ext_alloc _ (Below.refl _ _)
  have HB := Lib.hid (ext_trans (ext_alloc (.cells #[.int .i64 0, .bool false, .bool false, .int .i64 0] 50) (Below.refl _ w)) (ext_trans hb hbW))
  have hbx := (hbW.block w.heap.size (by have := hb.size; simp at this; omega)).trans ((hb.block w.heap.size (by simp)).trans (alNew rfl))
  have HBX := Lib.hid hbx
  obtain ⟨b0, b1, b2, b3, bf, bl⟩ := four_cells hbx
  rw [← hW2]
  clear hb hbx hbW hW2
  go_wp2_with fail
  obtain ⟨W3, hW3⟩ : ∃ W3, W3 = set4 W2 w.heap.size (.int .i64 0) (.bool false) (.bool false) (.int .i64 0) := ⟨_, rfl⟩
  have hbk := set4_blk (.int .i64 0) (.bool false) (.bool false) (.int .i64 0) HBX.out
  have hgr := set4_grown W2 w.heap.size (.int .i64 0) (.bool false) (.bool false) (.int .i64 0)
  rw [← hW3] at hbk hgr
  unfold set4 at hW3
  rw [← hW3]
  obtain ⟨d0, d1, d2, d3, df, dl⟩ := four_cells hbk
  clear b0 b1 b2 b3 bf bl
  (try simp only [Exit.inBlock, Exit.then]); refine bodyPost_ret (by simp [results, Tryd.results22, go_sem, d0, d1, d2, d3]; try rfl) rfl ?_
  exact ⟨rfl, HB.out.grown hgr HB.out.size (fun k e => by cases e; exact Nat.le_refl _)⟩
theorem kretire_nil (x y : Int) (w : World) : Calls Tryd.prog 24 #[.pointer none, .int .i64 x, .int .i64 y] w fun e w' => e = .returned (.tuple #[.agg #[.int .i64 0, .int .i64 0, .int .i64 0, .int .i64 0, .int .i64 0, .int .i64 0, .int .i64 0], .int .i64 2]) ∧ Below w.heap.size w w' := by
  go_enter Tryd.func24, Tryd.ntmps24
  go_wp2
  (try simp only [Exit.inBlock, Exit.then]); refine bodyPost_ret (by simp [results, Tryd.results24, go_sem]; try rfl) rfl ?_
  exact ⟨rfl, (by repeat (with_reducible first | exact Below.refl _ _ | assumption | (refine ext_next (by assumption) ?_) | apply ext_alloc | apply ext_past | apply ext_drew | apply ext_drewN))⟩
theorem ktwin_nil (w : World) : Calls Tryd.prog 17 #[.pointer none] w fun e w' => e = .returned (.pointer none) ∧ Below w.heap.size w w' := by
  go_enter Tryd.func17, Tryd.ntmps17
  go_wp2
  go_ret
  exact ⟨rfl, (by repeat (with_reducible first | exact Below.refl _ _ | assumption | (refine ext_next (by assumption) ?_) | apply ext_alloc | apply ext_past | apply ext_drew | apply ext_drewN))⟩
set_option maxHeartbeats 1000000 in
theorem krun_nil (n : Int) (w : World) : Calls Tryd.prog 18 #[.pointer none, .int .i64 n] w fun e w' => e = .returned (.slice none 0 0) ∧ Below w.heap.size w w' := by
  by_cases h : 0 < n
  · have e0 : decide ((0 : Int) < n) = true := by simpa using h
    go_enter Tryd.func18, Tryd.ntmps18
    go_wp2_with fail
    go_step3
    go_wp2_with fail
    go_step3
    go_wp2_with fail
    go_loopg [5] 1 (fun g s5 wr => g = 1 ∧ s5 = .slice none 0 0 ∧ wr = w)
    case atStart => exact ⟨rfl, rfl, rfl⟩
    case round =>
      obtain ⟨rfl, rfl, rfl⟩ := hrel
      go_wp2_with fail
      refine (klocal_nil _).mono ?_
      rintro e w1 ⟨rfl, hb⟩
      have HB := Lib.hid hb
      clear hb
      go_wp2_with fail
      rw [Exit.noGoto_ret]
      go_ret
      exact ⟨rfl, ext_trans HB.out (ext_alloc _ (Below.refl _ _))⟩
  · have e0 : decide ((0 : Int) < n) = false := by simpa using h
    go_enter Tryd.func18, Tryd.ntmps18
    go_wp2_with fail
    go_step3
    go_wp2_with fail
    go_step3
    go_wp2_with fail
    go_loopg [5] 1 (fun g s5 wr => g = 1 ∧ s5 = .slice none 0 0 ∧ wr = w)
    case atStart => exact ⟨rfl, rfl, rfl⟩
    case round =>
      obtain ⟨rfl, rfl, rfl⟩ := hrel
      go_wp2_with fail
      rw [Exit.noGoto_ret]
      go_ret
      exact ⟨rfl, Below.refl _ _⟩

theorem five_cells {W : World} {b : Nat} {x0 x1 x2 x3 x4 : Value} {t : TypeId} (h : W.heap[b]? = some (.cells #[x0, x1, x2, x3, x4] t (0, 0))) :
    W.cell? ⟨b, 0, none⟩ = some x0 ∧ W.cell? ⟨b, 1, none⟩ = some x1 ∧ W.cell? ⟨b, 2, none⟩ = some x2 ∧ W.cell? ⟨b, 3, none⟩ = some x3 ∧ W.cell? ⟨b, 4, none⟩ = some x4 ∧ (∀ i, W.frozen? ⟨b, i, none⟩ = false) ∧ b < W.heap.size := by
  refine ⟨?_, ?_, ?_, ?_, ?_, fun i => ?_, lt_of h⟩ <;> simp [World.cell?, World.frozen?, h]
theorem kask_nil (w : World) : Calls Tryd.prog 23 #[.pointer none] w fun e w' => e = .returned (.tuple #[.agg #[.int .i64 0, .int .i64 0, .int .i64 0, .int .i64 0, .int .i64 0], .bool false]) ∧ Below w.heap.size w w' := by
  go_enter Tryd.func23, Tryd.ntmps23
  go_wp2_with fail
  refine (knext_nil _).mono ?_
  rintro e w1 ⟨rfl, hb⟩
  go_upto_if 17 with (fail)
  obtain ⟨W2, hW2⟩ : ∃ W2, W2 = w1.alloc (.cells #[.int .i64 0, .int .i64 0, .int .i64 0, .int .i64 0] 36) := ⟨_, rfl⟩
  have hbW : Below w1.heap.size w1 W2 := by rw [hW2]; exact ext_alloc _ (Below.refl _ _)
  have HB := Lib.hid (ext_trans (ext_alloc (.cells #[.int .i64 0, .int .i64 0, .int .i64 0, .int .i64 0, .int .i64 0] 54) (Below.refl _ w)) (ext_trans hb hbW))
  have hbx := (hbW.block w.heap.size (by have := hb.size; simp at this; omega)).trans ((hb.block w.heap.size (by simp)).trans (alNew rfl))
  have HBX := Lib.hid hbx
  obtain ⟨b0, b1, b2, b3, b4, bf, bl⟩ := five_cells hbx
  rw [← hW2]
  clear hb hbx hbW hW2
  go_wp2_with fail
  obtain ⟨W3, hW3⟩ : ∃ W3, W3 = (set4 W2 w.heap.size (.int .i64 0) (.int .i64 0) (.int .i64 0) (.int .i64 0)).setCell ⟨w.heap.size, 4, none⟩ (.int .i64 0) := ⟨_, rfl⟩
  have hgr : W2.grownBy W3 (some w.heap.size) := by rw [hW3]; exact gr_two (set4_grown _ _ _ _ _ _) (sc_grown _ _ _ _)
  have hbk : W3.heap[w.heap.size]? = some (.cells #[.int .i64 0, .int .i64 0, .int .i64 0, .int .i64 0, .int .i64 0] 54 (0, 0)) := by
    have s0 := Joins.block_setCell (i := 0) HBX.out (.int .i64 0)
    have s1 := Joins.block_setCell (i := 1) s0 (.int .i64 0)
    have s2 := Joins.block_setCell (i := 2) s1 (.int .i64 0)
    have s3 := Joins.block_setCell (i := 3) s2 (.int .i64 0)
    have s4 := Joins.block_setCell (i := 4) s3 (.int .i64 0)
    rw [hW3]
    unfold set4
    simpa using s4
  unfold set4 at hW3
  rw [← hW3]
  obtain ⟨d0, d1, d2, d3, d4, df, dl⟩ := five_cells hbk
  clear b0 b1 b2 b3 b4 bf bl
  (try simp only [Exit.inBlock, Exit.then]); refine bodyPost_ret (by simp [results, Tryd.results23, go_sem, d0, d1, d2, d3, d4]; try rfl) rfl ?_
  exact ⟨rfl, HB.out.grown hgr HB.out.size (fun k e => by cases e; exact Nat.le_refl _)⟩

end Go.Proofs.YtkobeajbiendlaaDoor
namespace Go.Proofs.YtkobeajbiendlaaDoor
open Go.RowKit

/-- An event. -/
structure Ev where
  co : Int
  a : Int
  op : Int
  wo : Int
  wd : Int
  va : Int
  cd : Int
def Ev.zero : Ev := ⟨0, 0, 0, 0, 0, 0, 0⟩
def Ev.cells (e : Ev) : List Value := [.int .i64 e.co, .int .i64 e.a, .int .i64 e.op, .int .i64 e.wo, .int .i64 e.wd, .int .i64 e.va, .int .i64 e.cd]
def atV (l : List Ev) (i : Nat) : Ev := l[i]?.getD Ev.zero
def flatV7 (l : List Ev) : List Value := l.flatMap Ev.cells
theorem flatV7_len (l : List Ev) : (flatV7 l).length = l.length * 7 := by
  induction l with
  | nil => rfl
  | cons x xs ih => simp [flatV7, Ev.cells] at ih ⊢; omega
theorem flatV7_app (l m : List Ev) : flatV7 (l ++ m) = flatV7 l ++ flatV7 m := by simp [flatV7]
theorem flatV7_at (l : List Ev) : ∀ i j, i < l.length → j < 7 → (flatV7 l)[i * 7 + j]? = (atV l i).cells[j]? := by
  induction l with
  | nil => intro i j hi; simp at hi
  | cons x xs ih =>
    intro i j hi hj
    cases i with
    | zero =>
      have : j = 0 ∨ j = 1 ∨ j = 2 ∨ j = 3 ∨ j = 4 ∨ j = 5 ∨ j = 6 := by omega
      rcases this with rfl | rfl | rfl | rfl | rfl | rfl | rfl <;> rfl
    | succ i =>
      have h1 := ih i j (by simpa using hi) hj
      have e : (i + 1) * 7 + j = 7 + (i * 7 + j) := by omega
      rw [e]
      have e2 : flatV7 (x :: xs) = x.cells ++ flatV7 xs := by simp [flatV7]
      rw [e2, List.getElem?_append_right (by simp [Ev.cells])]
      have e3 : 7 + (i * 7 + j) - x.cells.length = i * 7 + j := by simp [Ev.cells]
      rw [e3, h1]
      simp [atV]
theorem flatV7_one (l : List Ev) : ∀ u ∈ flatV7 l, u.oneCell' = true := by
  intro u hu
  simp only [flatV7, List.mem_flatMap] at hu
  obtain ⟨x, _, hx⟩ := hu
  simp [Ev.cells] at hx
  rcases hx with rfl | rfl | rfl | rfl | rfl | rfl | rfl <;> rfl
theorem info_ev : (Tryd.prog.info? 42).map (fun i => (i.zero, i.size, i.bytes)) = some (some (.agg #[.int .i64 0, .int .i64 0, .int .i64 0, .int .i64 0, .int .i64 0, .int .i64 0, .int .i64 0]), 7, 56) := by kernel_rfl

/-- What a core does by itself. -/
def locOp (o : Int) : Bool := o == 1 || o == 2 || o == 6 || o == 7 || o == 9 || o == 10
def isLoc (s : CoS) : Bool := !endB s.ps s.a && locOp (atI s.ps s.a.toNat).op
def locVal (s : CoS) (x : Ins) : Int := if x.op = 1 then x.b else if x.op = 2 then wrap64 (s.r x.b.toNat + s.r x.c.toNat) else if x.op = 7 then x.a else if x.op = 9 then x.a else if x.op = 10 then s.r x.a.toNat else 0
def locE (s : CoS) : Ev := ⟨s.no, s.a, (atI s.ps s.a.toNat).op, s.wo, 0, locVal s (atI s.ps s.a.toNat), if (atI s.ps s.a.toNat).op = 7 ∧ s.wo ≠ 0 then 18 else 0⟩
def locR (s : CoS) (x : Ins) : Nat → Int := if x.op = 1 ∨ x.op = 2 then upd s.r x.a.toNat (locVal s x) else s.r
def locN (s : CoS) (x : Ins) : Int := if x.op = 9 then x.a else if x.op = 10 ∧ s.r x.a.toNat = 0 then x.b else s.a + 1
def locS (s : CoS) : CoS := { s with r := locR s (atI s.ps s.a.toNat), a := locN s (atI s.ps s.a.toNat), wo := if (atI s.ps s.a.toNat).op = 7 ∧ s.wo = 0 then (atI s.ps s.a.toNat).a else s.wo, ov := endB s.ps (locN s (atI s.ps s.a.toNat)) }
/-- A program that may be. -/
def GoodP (l : List Ins) : Prop := l.length ≤ 32 ∧ ∀ i, i < l.length → mayV (atI l i) l.length = 0
theorem chkV_all {l : List Ins} {m : Int} : ∀ {k : Nat}, (chkV l m k).2 = 0 → ∀ i, i < k → mayV (atI l i) m = 0
  | 0, _, i, hi => by omega
  | k + 1, h, i, hi => by
    unfold chkV at h
    split at h
    · rename_i h0
      split at h
      · rename_i h1
        by_cases hik : i = k
        · rw [hik]; exact h1
        · exact chkV_all h0 i (by omega)
      · rename_i h1
        exact absurd h h1
    · rename_i h0
      exact absurd h h0
theorem good_of_chk {l : List Ins} (h : (chkP l).2 = 0) : GoodP l := by
  have hl := chk_len h
  refine ⟨hl, ?_⟩
  unfold chkP at h
  rw [if_neg (by omega)] at h
  exact chkV_all h
theorem good_new' {no wo : Int} {l : List Ins} (h : newE no wo l = 0) : GoodP l := by
  unfold newE at h
  split at h
  · cases h
  · exact good_of_chk h

theorem may_parts {x : Ins} {m : Int} (h : mayV x m = 0) : opB x.op = true ∧ fitB (numb x.op.toNat 0) x.a m = true ∧ fitB (numb x.op.toNat 1) x.b m = true ∧ fitB (numb x.op.toNat 2) x.c m = true := by
  unfold mayV at h
  split at h
  · rename_i h0
    split at h
    · rename_i h1
      simp [numsI] at h1
      exact ⟨h0, h1.1, h1.2.1, h1.2.2⟩
    · cases h
  · cases h
theorem fit_reg {v m : Int} (h : fitB 1 v m = true) : ∃ i : Nat, v = i ∧ i < 4 := by
  simp [fitB] at h
  exact ⟨v.toNat, by omega, by omega⟩

/-- An instruction of a good program, by its op. -/
theorem good_at {l : List Ins} (h : GoodP l) {k : Nat} (hk : k < l.length) : ∃ x : Ins, atI l k = x ∧ 1 ≤ x.op ∧ x.op < 12 ∧ (x.op = 1 ∨ x.op = 10 → ∃ i : Nat, x.a = i ∧ i < 4) ∧ (x.op = 2 → ∃ i j n : Nat, x.a = i ∧ x.b = j ∧ x.c = n ∧ i < 4 ∧ j < 4 ∧ n < 4) ∧ (x.op = 3 ∨ x.op = 4 ∨ x.op = 5 → ∃ i j : Nat, x.a = i ∧ x.b = j ∧ i < 4 ∧ j < 4) ∧ (x.op = 8 → ∃ j n : Nat, x.b = j ∧ x.c = n ∧ j < 4 ∧ n < 4 ∧ 1 ≤ x.a ∧ x.a ≤ 4) ∧ (x.op = 9 → 0 ≤ x.a ∧ x.a ≤ l.length) ∧ (x.op = 10 → 0 ≤ x.b ∧ x.b ≤ l.length) ∧ (x.op = 7 → 1 ≤ x.a ∧ x.a ≤ 3) := by
  obtain ⟨p0, p1, p2, p3⟩ := may_parts (h.2 k hk)
  refine ⟨_, rfl, ?_⟩
  generalize atI l k = x at p0 p1 p2 p3
  obtain ⟨xo, xa, xb, xc⟩ := x
  dsimp only at *
  have hb : 1 ≤ xo ∧ xo < 12 := by simpa [opB] using p0
  refine ⟨hb.1, hb.2, fun e => ?_, fun e => ?_, fun e => ?_, fun e => ?_, fun e => ?_, fun e => ?_, fun e => ?_⟩
  · rcases e with rfl | rfl
    · exact fit_reg p1
    · exact fit_reg p1
  · subst e
    obtain ⟨i, hi, i4⟩ := fit_reg p1
    obtain ⟨j, hj, j4⟩ := fit_reg p2
    obtain ⟨n, hn, n4⟩ := fit_reg p3
    exact ⟨i, j, n, hi, hj, hn, i4, j4, n4⟩
  · rcases e with rfl | rfl | rfl
    · obtain ⟨i, hi, i4⟩ := fit_reg p1
      obtain ⟨j, hj, j4⟩ := fit_reg p2
      exact ⟨i, j, hi, hj, i4, j4⟩
    · obtain ⟨i, hi, i4⟩ := fit_reg p1
      obtain ⟨j, hj, j4⟩ := fit_reg p2
      exact ⟨i, j, hi, hj, i4, j4⟩
    · obtain ⟨i, hi, i4⟩ := fit_reg p1
      obtain ⟨j, hj, j4⟩ := fit_reg p2
      exact ⟨i, j, hi, hj, i4, j4⟩
  · subst e
    obtain ⟨j, hj, j4⟩ := fit_reg p2
    obtain ⟨n, hn, n4⟩ := fit_reg p3
    have h4 : fitB 4 xa l.length = true := p1
    simp [fitB] at h4
    exact ⟨j, n, hj, hn, j4, n4, h4.1, h4.2⟩
  · subst e
    have h4 : fitB 5 xa l.length = true := p1
    simpa [fitB] using h4
  · subst e
    have h4 : fitB 5 xb l.length = true := p2
    simpa [fitB] using h4
  · subst e
    have h4 : fitB 3 xa l.length = true := p1
    simpa [fitB] using h4

theorem klocal_yes (p : Nat) (v : Value) (s : CoS) (w : World) (h : Kc w p v s) (hg : GoodP s.ps) (hl : isLoc s = true) :
    Calls Tryd.prog 19 #[.pointer (some ⟨p, 0, none⟩)] w fun e w' => e = .returned (.tuple #[.agg (locE s).cells.toArray, .bool true]) ∧ Kc w' p v (locS s) ∧ w.grownBy w' (some p) := by
  unfold isLoc at hl
  simp only [Bool.and_eq_true, Bool.not_eq_true'] at hl
  obtain ⟨he, ho⟩ := hl
  obtain ⟨k, hk, hkl, _⟩ := endB_no he
  have ek : s.a.toNat = k := by omega
  obtain ⟨x, hx, x1, x12, g1, g2, _, _, g9, g10, g7⟩ := good_at hg hkl
  have hk2 : k < 1000 := by have := hg.1; omega
  have hx' : atI s.ps s.a.toNat = x := by rw [ek]; exact hx
  obtain ⟨xo, xa, xb, xc⟩ := x
  dsimp only at *
  have key : ∀ (V : Value) (s2 : CoS), (Calls Tryd.prog 19 #[.pointer (some ⟨p, 0, none⟩)] w fun e w' => e = .returned (.tuple #[V, .bool true]) ∧ Kc w' p v s2 ∧ w.grownBy w' (some p)) → V = .agg (locE s).cells.toArray → s2 = locS s →
      Calls Tryd.prog 19 #[.pointer (some ⟨p, 0, none⟩)] w fun e w' => e = .returned (.tuple #[.agg (locE s).cells.toArray, .bool true]) ∧ Kc w' p v (locS s) ∧ w.grownBy w' (some p) := fun V s2 hc h1 h2 => by
    subst h1
    subst h2
    exact hc
  rw [hx'] at ho
  dsimp only [locOp] at ho
  simp only [Bool.or_eq_true, beq_iff_eq] at ho
  rcases ho with ((((rfl | rfl) | rfl) | rfl) | rfl) | rfl
  · obtain ⟨i, rfl, hi⟩ := g1 (.inl rfl)
    refine key _ _ (klocal_set p v s k i xb xc w h he hk hk2 hx' hi) ?_ ?_
    · simp [locE, Ev.cells, hx, locVal, hk]
    · simp [locS, locR, locN, hx, locVal, hk]
  · obtain ⟨i, j, n, rfl, rfl, rfl, hi, hj, hn⟩ := g2 rfl
    refine key _ _ (klocal_add p v s k i j n w h he hk hk2 hx' hi hj hn) ?_ ?_
    · simp [locE, Ev.cells, hx, locVal, hk]
    · simp [locS, locR, locN, hx, locVal, hk]
  · refine key _ _ (klocal_fence p v s k xa xb xc w h he hk hk2 hx') ?_ ?_
    · simp [locE, Ev.cells, hx, locVal, hk]
    · simp [locS, locR, locN, hx, hk]
  · by_cases hw : s.wo = 0
    · refine key _ _ (klocal_world0 p v s k xa xb xc w h he hk hk2 hx' hw) ?_ ?_
      · simp [locE, Ev.cells, hx, locVal, hk, hw]
      · simp [locS, locR, locN, hx, hk, hw]
    · refine key _ _ (klocal_world1 p v s k xa xb xc w h he hk hk2 hx' hw) ?_ ?_
      · simp [locE, Ev.cells, hx, locVal, hk, hw]
      · simp [locS, locR, locN, hx, hk, hw]
  · refine key _ _ (klocal_jump p v s k xa xb xc w h he hk hk2 hx') ?_ ?_
    · simp [locE, Ev.cells, hx, locVal, hk]
    · simp [locS, locR, locN, hx, ek]
  · obtain ⟨i, rfl, hi⟩ := g1 (.inr rfl)
    by_cases hz : s.r i = 0
    · refine key _ _ (klocal_zero0 p v s k i xb xc w h he hk hk2 hx' hi hz) ?_ ?_
      · simp [locE, Ev.cells, hx, locVal, hk, hz]
      · simp [locS, locR, locN, hx, ek, hz]
    · refine key _ _ (klocal_zero1 p v s k i xb xc w h he hk hk2 hx' hi hz) ?_ ?_
      · simp [locE, Ev.cells, hx, locVal, hk]
      · simp [locS, locR, locN, hx, hk, hz]

theorem ask_op {o : Int} (h1 : 1 ≤ o) (h2 : o < 12) (h3 : o ≠ 11) (h4 : locOp o = false) : o = 3 ∨ o = 4 ∨ o = 5 ∨ o = 8 := by
  simp [locOp] at h4
  omega
theorem klocal_not (p : Nat) (v : Value) (s : CoS) (w : World) (h : Kc w p v s) (hg : GoodP s.ps) (hl : isLoc s = false) :
    Calls Tryd.prog 19 #[.pointer (some ⟨p, 0, none⟩)] w fun e w' => e = .returned (.tuple #[.agg #[.int .i64 0, .int .i64 0, .int .i64 0, .int .i64 0, .int .i64 0, .int .i64 0, .int .i64 0], .bool false]) ∧ Below w.heap.size w w' := by
  cases he : endB s.ps s.a
  · obtain ⟨k, hk, hkl, h11⟩ := endB_no he
    have ek : s.a.toNat = k := by omega
    obtain ⟨x, hx, x1, x12, _⟩ := good_at hg hkl
    have hk2 : k < 1000 := by have := hg.1; omega
    have hx' : atI s.ps s.a.toNat = x := by rw [ek]; exact hx
    unfold isLoc at hl
    rw [he, hx'] at hl
    rw [hx] at h11
    obtain ⟨xo, xa, xb, xc⟩ := x
    dsimp only at *
    rcases ask_op x1 x12 h11 (by simpa using hl) with rfl | rfl | rfl | rfl
    · exact klocal_no3 p v s k xa xb xc w h he hk hk2 hx'
    · exact klocal_no4 p v s k xa xb xc w h he hk hk2 hx'
    · exact klocal_no5 p v s k xa xb xc w h he hk hk2 hx'
    · exact klocal_no8 p v s k xa xb xc w h he hk hk2 hx'
  · exact klocal_end p v s w h he

end Go.Proofs.YtkobeajbiendlaaDoor
