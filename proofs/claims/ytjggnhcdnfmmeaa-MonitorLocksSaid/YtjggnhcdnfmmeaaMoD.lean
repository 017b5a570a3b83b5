/- What this text holds: a core drops a granule. No condition. -/
import Derived.Test.YtjggnhcdnfmmeaaMoB
import Derived.StillTailTactics
namespace Go.Proofs.Ytjggnhcdnfmmeaa
open Go.RowKit Go.Maps

def noneQ (a b c d : Bool) : Bool := !(a || b || c || d)
theorem eqW4 (a b c d : Bool) (w : World) : (binOp .eql 112 (.agg #[.bool a, .bool b, .bool c, .bool d]) (.agg #[.bool false, .bool false, .bool false, .bool false])).run Try.prog w = .ok (.bool (noneQ a b c d)) w := by
  cases a <;> cases b <;> cases c <;> cases d <;> kernel_rfl
theorem Mn.put {w w' : World} {B p t g b M : Nat} {n : Int} {s : Ms} {D : DataW Value} (h : Mn w B p t g b n M s) (r : Ru) (k : Int) (hD : w.ownsMap Try.prog 3 RV b M D) (hF : ∀ k : Int, D.atKey (.int .i64 k) (.held Ru.zero.val) = .held (ruO (s.F k)).val ∧ has D (.int .i64 k) = (s.F k).isSome)
    (h2 : w'.ownsMap Try.prog 3 RV b (M + 1) (D.put (.int .i64 k) (.held r.val))) (hg : w.grownBy w' (some b)) (hk : 0 ≤ k ∧ k < s.es.length ∧ r.a.gr = k ∧ (r.ph = 1 ∨ r.ph = 2) ∧ ownB r.th = true) :
    Mn w' B p t g b n (M + 1) ⟨s.es, updI s.F k (some r)⟩ := by
  obtain ⟨n1, n2, n3, n4, n5⟩ := h.ne
  refine ⟨⟨h.ok.len, h.ok.own, fun i r' hr => ?_⟩, h.hn, (hg.block p h.lt.1 (by simpa using n3)).trans h.box, h.tb.of_blocks hg.size (hg.block t h.lt.2.1 (by simpa using n4)) (hg.block g h.lt.2.2.1 (by simpa using n5)), Mm.put r k hD hF h2, h.ne, h.lo⟩
  by_cases e : i = k
  · subst e
    have h9 : updI s.F i (some r) i = some r' := hr
    rw [updI_same] at h9
    cases h9
    exact hk
  · have h9 : updI s.F k (some r) i = some r' := hr
    rw [updI_ne _ _ e] at h9
    exact h.ok.run i r' h9
theorem Ms.some_of {s : Ms} {k : Int} (hp : (ruO (s.F k)).ph ≠ 0) : ∃ r, s.F k = some r := by
  cases hF : s.F k with
  | none => rw [hF] at hp; exact absurd rfl hp
  | some r => exact ⟨r, rfl⟩
set_option maxRecDepth 100000 in
set_option maxHeartbeats 4000000 in
theorem mdrop_no {w : World} {B p t g b M : Nat} {n : Int} {s : Ms} (h : Mn w B p t g b n M s) (k co : Int) (hk : k < 0 ∨ s.es.length ≤ k) :
    Calls Try.prog 31 #[.pointer (some ⟨p, 0, none⟩), .int .i64 k, .int .i64 co] w fun e w' => e = .returned (.tuple #[.bool false, .int .i64 10]) ∧ Below w.heap.size w w' := by
  obtain ⟨c0, c1, c2⟩ := h.cells
  have pl := h.lt.1
  have HG := Lib.hid (get_no t g s.es k w h.tb hk)
  clear h hk
  go_enter Try.func31, Try.ntmps31
  go_wp2_with fail
  refine HG.out.mono ?_
  rintro e w1 ⟨rfl, hb⟩
  go_wp2_with fail
  go_ret2
  exact ⟨rfl, (by repeat (with_reducible first | exact Below.refl _ _ | assumption | (refine ext_next (by assumption) ?_) | apply ext_alloc | apply ext_past | apply ext_drew | apply ext_drewN))⟩
theorem twelve_at {W : World} {X : Nat} {t : TypeId} {fr : Nat × Nat} {v0 v1 v2 v3 v4 v5 v6 v7 v8 v9 v10 v11 : Value} (h : W.heap[X]? = some (.cells #[v0, v1, v2, v3, v4, v5, v6, v7, v8, v9, v10, v11] t fr)) : W.cell? ⟨X, 0, none⟩ = some v0 ∧ W.cell? ⟨X, 1, none⟩ = some v1 ∧ W.cell? ⟨X, 2, none⟩ = some v2 ∧ W.cell? ⟨X, 3, none⟩ = some v3 ∧ W.cell? ⟨X, 4, none⟩ = some v4 ∧ W.cell? ⟨X, 5, none⟩ = some v5 ∧ W.cell? ⟨X, 6, none⟩ = some v6 ∧ W.cell? ⟨X, 7, none⟩ = some v7 ∧ W.cell? ⟨X, 8, none⟩ = some v8 ∧ W.cell? ⟨X, 9, none⟩ = some v9 ∧ W.cell? ⟨X, 10, none⟩ = some v10 ∧ W.cell? ⟨X, 11, none⟩ = some v11 := by
  simp [World.cell?, h]
section
variable {w : World} {B p t g b M : Nat} {n : Int} {s : Ms}

set_option maxRecDepth 100000 in
set_option maxHeartbeats 4000000 in
theorem mdrop_ph (h : Mn w B p t g b n M s) (k co : Int) (hk : 0 ≤ k ∧ k < s.es.length) (hph : (ruO (s.F k)).ph ≠ 1) :
    Calls Try.prog 31 #[.pointer (some ⟨p, 0, none⟩), .int .i64 k, .int .i64 co] w fun e w' => e = .returned (.tuple #[.bool false, .int .i64 16]) ∧ Below w.heap.size w w' := by
  obtain ⟨c0, c1, c2⟩ := h.cells
  have HH := Lib.hid h
  have hk15 : (Lit.int .i64 k).wf = true := wf_small hk.1 (by have := h.ok.len.2; omega)
  have HG := Lib.hid (get_yes t g s.es k w h.tb hk.1 hk.2)
  have HK := Lib.hid hk
  have pl := h.lt.1
  have HL := Lib.hid (fun (W : World) (hb : Below w.heap.size w W) => (h.ext hb).mp.look hk15)
  have HKW := Lib.hid (key_int hk15)
  obtain ⟨r, hr⟩ : ∃ r, r = ruO (s.F k) := ⟨_, rfl⟩
  rw [← hr] at HL
  unfold Ru.val at HL
  have HR := Lib.hid hr
  rw [← hr] at hph
  have e1 : (r.ph != 1) = true := by simpa using hph
  have e2 : (r.ph == 1) = false := by simpa using hph
  clear h hk hk15 hr hph
  go_enter Try.func31, Try.ntmps31
  go_wp2_with fail
  refine HG.out.mono ?_
  rintro e w1 ⟨rfl, hb⟩
  obtain ⟨d0, d1, d2⟩ := (HH.out.ext hb).cells
  have pl1 := (HH.out.ext hb).lt.1
  have hl := HL.out (w1.alloc (.cells #[.int .i64 (atE s.es k.toNat).1, .bool (atE s.es k.toNat).2] 55)) (ext_trans hb (ext_alloc _ (Below.refl _ _)))
  go_wp2_with fail
  go_ret2
  exact ⟨rfl, (by repeat (with_reducible first | exact Below.refl _ _ | assumption | (refine ext_next (by assumption) ?_) | apply ext_alloc | apply ext_past | apply ext_drew | apply ext_drewN))⟩
set_option maxRecDepth 100000 in
set_option maxHeartbeats 4000000 in
theorem mdrop_co (h : Mn w B p t g b n M s) (k co : Int) (hk : 0 ≤ k ∧ k < s.es.length) (hph : (ruO (s.F k)).ph = 1) (hco : co < 0 ∨ n ≤ co) :
    Calls Try.prog 31 #[.pointer (some ⟨p, 0, none⟩), .int .i64 k, .int .i64 co] w fun e w' => e = .returned (.tuple #[.bool false, .int .i64 12]) ∧ Below w.heap.size w w' := by
  obtain ⟨c0, c1, c2⟩ := h.cells
  have HH := Lib.hid h
  have hk15 : (Lit.int .i64 k).wf = true := wf_small hk.1 (by have := h.ok.len.2; omega)
  have HG := Lib.hid (get_yes t g s.es k w h.tb hk.1 hk.2)
  have HK := Lib.hid hk
  have pl := h.lt.1
  have HL := Lib.hid (fun (W : World) (hb : Below w.heap.size w W) => (h.ext hb).mp.look hk15)
  have HKW := Lib.hid (key_int hk15)
  obtain ⟨r, hr⟩ : ∃ r, r = ruO (s.F k) := ⟨_, rfl⟩
  rw [← hr] at HL
  unfold Ru.val at HL
  have HR := Lib.hid hr
  rw [← hr] at hph
  have e1 : (r.ph != 1) = false := by simpa using hph
  have e2 : (r.ph == 1) = true := by simpa using hph
  have hl0 : ∀ W : World, Below w.heap.size w W → _ := HL.out
  clear h hk hk15 hr
  rw [hph] at HL
  clear hl0 e1 e2 hph
  by_cases hc0 : co < 0
  case pos =>
    have ec : decide (co < 0) = true := by simpa using hc0
    clear hco hc0
    go_enter Try.func31, Try.ntmps31
    go_wp2_with fail
    refine HG.out.mono ?_
    rintro e w1 ⟨rfl, hb⟩
    obtain ⟨d0, d1, d2⟩ := (HH.out.ext hb).cells
    have pl1 := (HH.out.ext hb).lt.1
    have hl := HL.out (w1.alloc (.cells #[.int .i64 (atE s.es k.toNat).1, .bool (atE s.es k.toNat).2] 55)) (ext_trans hb (ext_alloc _ (Below.refl _ _)))
    go_wp2_with fail
    go_ret2
    exact ⟨rfl, (by repeat (with_reducible first | exact Below.refl _ _ | assumption | (refine ext_next (by assumption) ?_) | apply ext_alloc | apply ext_past | apply ext_drew | apply ext_drewN))⟩
  have ec : decide (co < 0) = false := by simpa using hc0
  have ec2 : decide (co ≥ n) = true := by simp; omega
  have ec3 : decide (n ≤ co) = true := by simp; omega
  clear hco hc0
  go_enter Try.func31, Try.ntmps31
  go_wp2_with fail
  refine HG.out.mono ?_
  rintro e w1 ⟨rfl, hb⟩
  obtain ⟨d0, d1, d2⟩ := (HH.out.ext hb).cells
  have pl1 := (HH.out.ext hb).lt.1
  have hl := HL.out (w1.alloc (.cells #[.int .i64 (atE s.es k.toNat).1, .bool (atE s.es k.toNat).2] 55)) (ext_trans hb (ext_alloc _ (Below.refl _ _)))
  go_wp2_with fail
  go_ret2
  exact ⟨rfl, (by repeat (with_reducible first | exact Below.refl _ _ | assumption | (refine ext_next (by assumption) ?_) | apply ext_alloc | apply ext_past | apply ext_drew | apply ext_drewN))⟩
set_option maxRecDepth 100000 in
set_option maxHeartbeats 4000000 in
theorem mdrop_w0 (h : Mn w B p t g b n M s) (k : Int) (hk : 0 ≤ k ∧ k < s.es.length) (hph : (ruO (s.F k)).ph = 1) (hco : (0 : Int) < n) (hw : (ruO (s.F k)).w 0 = false) :
    Calls Try.prog 31 #[.pointer (some ⟨p, 0, none⟩), .int .i64 k, .int .i64 0] w fun e w' => e = .returned (.tuple #[.bool false, .int .i64 12]) ∧ Below w.heap.size w w' := by
  obtain ⟨c0, c1, c2⟩ := h.cells
  have HH := Lib.hid h
  have hk15 : (Lit.int .i64 k).wf = true := wf_small hk.1 (by have := h.ok.len.2; omega)
  have HG := Lib.hid (get_yes t g s.es k w h.tb hk.1 hk.2)
  have HK := Lib.hid hk
  have pl := h.lt.1
  have HL := Lib.hid (fun (W : World) (hb : Below w.heap.size w W) => (h.ext hb).mp.look hk15)
  have HKW := Lib.hid (key_int hk15)
  obtain ⟨r, hr⟩ : ∃ r, r = ruO (s.F k) := ⟨_, rfl⟩
  rw [← hr] at HL
  unfold Ru.val at HL
  have HR := Lib.hid hr
  rw [← hr] at hph hw
  rw [hph, hw] at HL
  have ec2 : decide ((0 : Int) ≥ n) = false := by simp; omega
  have ec3 : decide (n ≤ (0 : Int)) = false := by simp; omega
  clear h hk hk15 hr hph hw hco
  go_enter Try.func31, Try.ntmps31
  go_wp2_with fail
  refine HG.out.mono ?_
  rintro e w1 ⟨rfl, hb⟩
  obtain ⟨d0, d1, d2⟩ := (HH.out.ext hb).cells
  have pl1 := (HH.out.ext hb).lt.1
  have hl := HL.out (w1.alloc (.cells #[.int .i64 (atE s.es k.toNat).1, .bool (atE s.es k.toNat).2] 55)) (ext_trans hb (ext_alloc _ (Below.refl _ _)))
  go_wp2_with fail
  go_ret2
  exact ⟨rfl, (by repeat (with_reducible first | exact Below.refl _ _ | assumption | (refine ext_next (by assumption) ?_) | apply ext_alloc | apply ext_past | apply ext_drew | apply ext_drewN))⟩
set_option maxRecDepth 100000 in
set_option maxHeartbeats 4000000 in
theorem mdrop_w1 (h : Mn w B p t g b n M s) (k : Int) (hk : 0 ≤ k ∧ k < s.es.length) (hph : (ruO (s.F k)).ph = 1) (hco : (1 : Int) < n) (hw : (ruO (s.F k)).w 1 = false) :
    Calls Try.prog 31 #[.pointer (some ⟨p, 0, none⟩), .int .i64 k, .int .i64 1] w fun e w' => e = .returned (.tuple #[.bool false, .int .i64 12]) ∧ Below w.heap.size w w' := by
  obtain ⟨c0, c1, c2⟩ := h.cells
  have HH := Lib.hid h
  have hk15 : (Lit.int .i64 k).wf = true := wf_small hk.1 (by have := h.ok.len.2; omega)
  have HG := Lib.hid (get_yes t g s.es k w h.tb hk.1 hk.2)
  have HK := Lib.hid hk
  have pl := h.lt.1
  have HL := Lib.hid (fun (W : World) (hb : Below w.heap.size w W) => (h.ext hb).mp.look hk15)
  have HKW := Lib.hid (key_int hk15)
  obtain ⟨r, hr⟩ : ∃ r, r = ruO (s.F k) := ⟨_, rfl⟩
  rw [← hr] at HL
  unfold Ru.val at HL
  have HR := Lib.hid hr
  rw [← hr] at hph hw
  rw [hph, hw] at HL
  have ec2 : decide ((1 : Int) ≥ n) = false := by simp; omega
  have ec3 : decide (n ≤ (1 : Int)) = false := by simp; omega
  clear h hk hk15 hr hph hw hco
  go_enter Try.func31, Try.ntmps31
  go_wp2_with fail
  refine HG.out.mono ?_
  rintro e w1 ⟨rfl, hb⟩
  obtain ⟨d0, d1, d2⟩ := (HH.out.ext hb).cells
  have pl1 := (HH.out.ext hb).lt.1
  have hl := HL.out (w1.alloc (.cells #[.int .i64 (atE s.es k.toNat).1, .bool (atE s.es k.toNat).2] 55)) (ext_trans hb (ext_alloc _ (Below.refl _ _)))
  go_wp2_with fail
  go_ret2
  exact ⟨rfl, (by repeat (with_reducible first | exact Below.refl _ _ | assumption | (refine ext_next (by assumption) ?_) | apply ext_alloc | apply ext_past | apply ext_drew | apply ext_drewN))⟩
set_option maxRecDepth 100000 in
set_option maxHeartbeats 4000000 in
theorem mdrop_w2 (h : Mn w B p t g b n M s) (k : Int) (hk : 0 ≤ k ∧ k < s.es.length) (hph : (ruO (s.F k)).ph = 1) (hco : (2 : Int) < n) (hw : (ruO (s.F k)).w 2 = false) :
    Calls Try.prog 31 #[.pointer (some ⟨p, 0, none⟩), .int .i64 k, .int .i64 2] w fun e w' => e = .returned (.tuple #[.bool false, .int .i64 12]) ∧ Below w.heap.size w w' := by
  obtain ⟨c0, c1, c2⟩ := h.cells
  have HH := Lib.hid h
  have hk15 : (Lit.int .i64 k).wf = true := wf_small hk.1 (by have := h.ok.len.2; omega)
  have HG := Lib.hid (get_yes t g s.es k w h.tb hk.1 hk.2)
  have HK := Lib.hid hk
  have pl := h.lt.1
  have HL := Lib.hid (fun (W : World) (hb : Below w.heap.size w W) => (h.ext hb).mp.look hk15)
  have HKW := Lib.hid (key_int hk15)
  obtain ⟨r, hr⟩ : ∃ r, r = ruO (s.F k) := ⟨_, rfl⟩
  rw [← hr] at HL
  unfold Ru.val at HL
  have HR := Lib.hid hr
  rw [← hr] at hph hw
  rw [hph, hw] at HL
  have ec2 : decide ((2 : Int) ≥ n) = false := by simp; omega
  have ec3 : decide (n ≤ (2 : Int)) = false := by simp; omega
  clear h hk hk15 hr hph hw hco
  go_enter Try.func31, Try.ntmps31
  go_wp2_with fail
  refine HG.out.mono ?_
  rintro e w1 ⟨rfl, hb⟩
  obtain ⟨d0, d1, d2⟩ := (HH.out.ext hb).cells
  have pl1 := (HH.out.ext hb).lt.1
  have hl := HL.out (w1.alloc (.cells #[.int .i64 (atE s.es k.toNat).1, .bool (atE s.es k.toNat).2] 55)) (ext_trans hb (ext_alloc _ (Below.refl _ _)))
  go_wp2_with fail
  go_ret2
  exact ⟨rfl, (by repeat (with_reducible first | exact Below.refl _ _ | assumption | (refine ext_next (by assumption) ?_) | apply ext_alloc | apply ext_past | apply ext_drew | apply ext_drewN))⟩
set_option maxRecDepth 100000 in
set_option maxHeartbeats 4000000 in
theorem mdrop_w3 (h : Mn w B p t g b n M s) (k : Int) (hk : 0 ≤ k ∧ k < s.es.length) (hph : (ruO (s.F k)).ph = 1) (hco : (3 : Int) < n) (hw : (ruO (s.F k)).w 3 = false) :
    Calls Try.prog 31 #[.pointer (some ⟨p, 0, none⟩), .int .i64 k, .int .i64 3] w fun e w' => e = .returned (.tuple #[.bool false, .int .i64 12]) ∧ Below w.heap.size w w' := by
  obtain ⟨c0, c1, c2⟩ := h.cells
  have HH := Lib.hid h
  have hk15 : (Lit.int .i64 k).wf = true := wf_small hk.1 (by have := h.ok.len.2; omega)
  have HG := Lib.hid (get_yes t g s.es k w h.tb hk.1 hk.2)
  have HK := Lib.hid hk
  have pl := h.lt.1
  have HL := Lib.hid (fun (W : World) (hb : Below w.heap.size w W) => (h.ext hb).mp.look hk15)
  have HKW := Lib.hid (key_int hk15)
  obtain ⟨r, hr⟩ : ∃ r, r = ruO (s.F k) := ⟨_, rfl⟩
  rw [← hr] at HL
  unfold Ru.val at HL
  have HR := Lib.hid hr
  rw [← hr] at hph hw
  rw [hph, hw] at HL
  have ec2 : decide ((3 : Int) ≥ n) = false := by simp; omega
  have ec3 : decide (n ≤ (3 : Int)) = false := by simp; omega
  clear h hk hk15 hr hph hw hco
  go_enter Try.func31, Try.ntmps31
  go_wp2_with fail
  refine HG.out.mono ?_
  rintro e w1 ⟨rfl, hb⟩
  obtain ⟨d0, d1, d2⟩ := (HH.out.ext hb).cells
  have pl1 := (HH.out.ext hb).lt.1
  have hl := HL.out (w1.alloc (.cells #[.int .i64 (atE s.es k.toNat).1, .bool (atE s.es k.toNat).2] 55)) (ext_trans hb (ext_alloc _ (Below.refl _ _)))
  go_wp2_with fail
  go_ret2
  exact ⟨rfl, (by repeat (with_reducible first | exact Below.refl _ _ | assumption | (refine ext_next (by assumption) ?_) | apply ext_alloc | apply ext_past | apply ext_drew | apply ext_drewN))⟩
set_option maxRecDepth 100000 in
set_option maxHeartbeats 4000000 in
theorem mdrop_y0 (h : Mn w B p t g b n M s) (hM : M < 1000) (k : Int) (hk : 0 ≤ k ∧ k < s.es.length) (hph : (ruO (s.F k)).ph = 1) (hco : (0 : Int) < n) (hw : (ruO (s.F k)).w 0 = true) :
    Calls Try.prog 31 #[.pointer (some ⟨p, 0, none⟩), .int .i64 k, .int .i64 0] w fun e w' => e = .returned (.tuple #[.bool (noneW ((ruO (s.F k)).clear 0).w), .int .i64 0]) ∧ Mn w' B p t g b n (M + 1) ⟨s.es, updI s.F k (some ((ruO (s.F k)).drop 0))⟩ ∧ Gt w w' g b := by
  obtain ⟨c0, c1, c2⟩ := h.cells
  have HH := Lib.hid h
  have hk15 : (Lit.int .i64 k).wf = true := wf_small hk.1 (by have := h.ok.len.2; omega)
  have HG := Lib.hid (get_yes t g s.es k w h.tb hk.1 hk.2)
  have HK := Lib.hid hk
  have pl := h.lt.1
  have HL := Lib.hid (fun (W : World) (hb : Below w.heap.size w W) => (h.ext hb).mp.look hk15)
  have HKW := Lib.hid (key_int hk15)
  obtain ⟨r, hr⟩ : ∃ r, r = ruO (s.F k) := ⟨_, rfl⟩
  rw [← hr] at HL
  unfold Ru.val at HL
  have HR := Lib.hid hr
  rw [← hr] at hph hw ⊢
  rw [hph, hw] at HL
  have ec2 : decide ((0 : Int) ≥ n) = false := by simp; omega
  have ec3 : decide (n ≤ (0 : Int)) = false := by simp; omega
  have hq := eqW4 false (r.w 1) (r.w 2) (r.w 3)
  have HOK : Hid (0 ≤ k ∧ k < s.es.length ∧ r.a.gr = k ∧ ownB r.th = true) := Lib.hid (by
    obtain ⟨r', hr'⟩ := Ms.some_of (s := s) (k := k) (by rw [← hr, hph]; omega)
    have h9 := h.ok.run k r' hr'
    have h8 : r = r' := by rw [hr, hr']; rfl
    rw [h8]
    exact ⟨h9.1, h9.2.1, h9.2.2.1, h9.2.2.2.2⟩)
  have HN : Hid (noneW (r.clear 0).w = noneQ false (r.w 1) (r.w 2) (r.w 3)) := Lib.hid rfl
  have HPH := Lib.hid hph
  rw [HN.out]
  clear h hk hk15 hr hph hw hco
  cases hn : noneQ false (r.w 1) (r.w 2) (r.w 3) with
  | true =>
    have HRD : Hid (r.drop 0 = ⟨r.a, r.th, r.sc, 2, fun i => if i = 0 then false else r.w i⟩) := Lib.hid (by unfold Ru.drop; rw [HN.out, hn]; rfl)
    rw [hn] at hq
    clear hn
    go_enter Try.func31, Try.ntmps31
    go_wp2_with fail
    refine HG.out.mono ?_
    rintro e w1 ⟨rfl, hb⟩
    obtain ⟨d0, d1, d2⟩ := (HH.out.ext hb).cells
    have pl1 := (HH.out.ext hb).lt.1
    have hl := HL.out (w1.alloc (.cells #[.int .i64 (atE s.es k.toNat).1, .bool (atE s.es k.toNat).2] 55)) (ext_trans hb (ext_alloc _ (Below.refl _ _)))
    have hb3 : Below w1.heap.size w1 ((w1.alloc (.cells #[.int .i64 (atE s.es k.toNat).1, .bool (atE s.es k.toNat).2] 55)).alloc (.cells #[.int .i64 r.a.co, .int .i64 r.a.wo, .int .i64 r.a.ca, .int .i64 r.a.gr, .int .i64 r.a.to, .int .i64 r.th, .bool r.sc, .int .i64 2, .bool false, .bool (r.w 1), .bool (r.w 2), .bool (r.w 3)] 114)) := ext_alloc _ (ext_alloc _ (Below.refl _ _))
    have hx3 : ((w1.alloc (.cells #[.int .i64 (atE s.es k.toNat).1, .bool (atE s.es k.toNat).2] 55)).alloc (.cells #[.int .i64 r.a.co, .int .i64 r.a.wo, .int .i64 r.a.ca, .int .i64 r.a.gr, .int .i64 r.a.to, .int .i64 r.th, .bool r.sc, .int .i64 2, .bool false, .bool (r.w 1), .bool (r.w 2), .bool (r.w 3)] 114)).heap[w1.heap.size + 1]? = some (.cells #[.int .i64 r.a.co, .int .i64 r.a.wo, .int .i64 r.a.ca, .int .i64 r.a.gr, .int .i64 r.a.to, .int .i64 r.th, .bool r.sc, .int .i64 2, .bool false, .bool (r.w 1), .bool (r.w 2), .bool (r.w 3)] 114 (0, 0)) := alNew (by simp)
    have HP3 := Lib.hid (And.intro (ext_trans hb hb3) hx3)
    clear hb3 hx3
    go_wp2_with fail
    clear d0 d1 d2 pl1 hl
    obtain ⟨w3, hw3⟩ : ∃ w3, w3 = (w1.alloc (.cells #[.int .i64 (atE s.es k.toNat).1, .bool (atE s.es k.toNat).2] 55)).alloc (.cells #[.int .i64 r.a.co, .int .i64 r.a.wo, .int .i64 r.a.ca, .int .i64 r.a.gr, .int .i64 r.a.to, .int .i64 r.th, .bool r.sc, .int .i64 2, .bool false, .bool (r.w 1), .bool (r.w 2), .bool (r.w 3)] 114) := ⟨_, rfl⟩
    rw [← hw3] at HP3 ⊢
    clear hw3
    have hh3 := HH.out.ext HP3.out.1
    obtain ⟨D, hD, hF⟩ := hh3.mp
    have HM3 := Lib.hid (And.intro hh3 (And.intro hD hF))
    obtain ⟨d0, d1, d2⟩ := hh3.cells
    have pl3 := hh3.lt.1
    have x3 := HP3.out.2
    obtain ⟨y0, y1, y2, y3, y4, y5, y6, y7, y8, y9, y10, y11⟩ := twelve_at x3
    have xl := lt_of x3
    clear hh3 hD hF x3
    go_still_tail 6, (by kernel_rfl)
    change wpList _ _ _ _ _ w3.drew
    go_wp2_with (at_mapUpdate; refine wpList_mapUpdate_own _ rfl _ _ _ 74 rfl 3 114 keyed_int Try.underlying74 RV b M D rfl HM3.out.2.1.drew (by unfold maxLen; omega) _ _ (.int .i64 k) rfl rfl HKW.out _ [] rfl ?_)
    intro w9 hown hgrow
    have hmn : Mn w9 B p t g b n (M + 1) ⟨s.es, updI s.F k (some (r.drop 0))⟩ := (HM3.out.1.ext (ext_drew (Below.refl _ _))).put (r.drop 0) k HM3.out.2.1.drew HM3.out.2.2 (by rw [HRD.out]; exact hown) hgrow (by rw [HRD.out]; exact ⟨HOK.out.1, HOK.out.2.1, HOK.out.2.2.1, by simp, HOK.out.2.2.2⟩)
    have HRES := Lib.hid (And.intro hmn ((Gt.of_below (ext_trans HP3.out.1 (ext_drew (Below.refl _ _)))).trans (Gt.of_grown (g := g) (b := b) hgrow (.inr rfl))))
    clear hown hgrow hmn y0 y1 y2 y3 y4 y5 y6 y7 y8 y9 y10 y11 xl d0 d1 d2 pl3
    go_wp2_with fail
    go_ret2
    exact ⟨rfl, HRES.out.1, HRES.out.2⟩
  | false =>
    have HRD : Hid (r.drop 0 = ⟨r.a, r.th, r.sc, 1, fun i => if i = 0 then false else r.w i⟩) := Lib.hid (by unfold Ru.drop; rw [HN.out, hn]; simp [Ru.clear, HPH.out])
    rw [hn] at hq
    clear hn
    go_enter Try.func31, Try.ntmps31
    go_wp2_with fail
    refine HG.out.mono ?_
    rintro e w1 ⟨rfl, hb⟩
    obtain ⟨d0, d1, d2⟩ := (HH.out.ext hb).cells
    have pl1 := (HH.out.ext hb).lt.1
    have hl := HL.out (w1.alloc (.cells #[.int .i64 (atE s.es k.toNat).1, .bool (atE s.es k.toNat).2] 55)) (ext_trans hb (ext_alloc _ (Below.refl _ _)))
    have hb3 : Below w1.heap.size w1 ((w1.alloc (.cells #[.int .i64 (atE s.es k.toNat).1, .bool (atE s.es k.toNat).2] 55)).alloc (.cells #[.int .i64 r.a.co, .int .i64 r.a.wo, .int .i64 r.a.ca, .int .i64 r.a.gr, .int .i64 r.a.to, .int .i64 r.th, .bool r.sc, .int .i64 1, .bool false, .bool (r.w 1), .bool (r.w 2), .bool (r.w 3)] 114)) := ext_alloc _ (ext_alloc _ (Below.refl _ _))
    have hx3 : ((w1.alloc (.cells #[.int .i64 (atE s.es k.toNat).1, .bool (atE s.es k.toNat).2] 55)).alloc (.cells #[.int .i64 r.a.co, .int .i64 r.a.wo, .int .i64 r.a.ca, .int .i64 r.a.gr, .int .i64 r.a.to, .int .i64 r.th, .bool r.sc, .int .i64 1, .bool false, .bool (r.w 1), .bool (r.w 2), .bool (r.w 3)] 114)).heap[w1.heap.size + 1]? = some (.cells #[.int .i64 r.a.co, .int .i64 r.a.wo, .int .i64 r.a.ca, .int .i64 r.a.gr, .int .i64 r.a.to, .int .i64 r.th, .bool r.sc, .int .i64 1, .bool false, .bool (r.w 1), .bool (r.w 2), .bool (r.w 3)] 114 (0, 0)) := alNew (by simp)
    have HP3 := Lib.hid (And.intro (ext_trans hb hb3) hx3)
    clear hb3 hx3
    go_wp2_with fail
    clear d0 d1 d2 pl1 hl
    obtain ⟨w3, hw3⟩ : ∃ w3, w3 = (w1.alloc (.cells #[.int .i64 (atE s.es k.toNat).1, .bool (atE s.es k.toNat).2] 55)).alloc (.cells #[.int .i64 r.a.co, .int .i64 r.a.wo, .int .i64 r.a.ca, .int .i64 r.a.gr, .int .i64 r.a.to, .int .i64 r.th, .bool r.sc, .int .i64 1, .bool false, .bool (r.w 1), .bool (r.w 2), .bool (r.w 3)] 114) := ⟨_, rfl⟩
    rw [← hw3] at HP3 ⊢
    clear hw3
    have hh3 := HH.out.ext HP3.out.1
    obtain ⟨D, hD, hF⟩ := hh3.mp
    have HM3 := Lib.hid (And.intro hh3 (And.intro hD hF))
    obtain ⟨d0, d1, d2⟩ := hh3.cells
    have pl3 := hh3.lt.1
    have x3 := HP3.out.2
    obtain ⟨y0, y1, y2, y3, y4, y5, y6, y7, y8, y9, y10, y11⟩ := twelve_at x3
    have xl := lt_of x3
    clear hh3 hD hF x3
    go_still_tail 6, (by kernel_rfl)
    change wpList _ _ _ _ _ w3.drew
    go_wp2_with (at_mapUpdate; refine wpList_mapUpdate_own _ rfl _ _ _ 74 rfl 3 114 keyed_int Try.underlying74 RV b M D rfl HM3.out.2.1.drew (by unfold maxLen; omega) _ _ (.int .i64 k) rfl rfl HKW.out _ [] rfl ?_)
    intro w9 hown hgrow
    have hmn : Mn w9 B p t g b n (M + 1) ⟨s.es, updI s.F k (some (r.drop 0))⟩ := (HM3.out.1.ext (ext_drew (Below.refl _ _))).put (r.drop 0) k HM3.out.2.1.drew HM3.out.2.2 (by rw [HRD.out]; exact hown) hgrow (by rw [HRD.out]; exact ⟨HOK.out.1, HOK.out.2.1, HOK.out.2.2.1, by simp, HOK.out.2.2.2⟩)
    have HRES := Lib.hid (And.intro hmn ((Gt.of_below (ext_trans HP3.out.1 (ext_drew (Below.refl _ _)))).trans (Gt.of_grown (g := g) (b := b) hgrow (.inr rfl))))
    clear hown hgrow hmn y0 y1 y2 y3 y4 y5 y6 y7 y8 y9 y10 y11 xl d0 d1 d2 pl3
    go_wp2_with fail
    go_ret2
    exact ⟨rfl, HRES.out.1, HRES.out.2⟩
set_option maxRecDepth 100000 in
set_option maxHeartbeats 4000000 in
theorem mdrop_y1 (h : Mn w B p t g b n M s) (hM : M < 1000) (k : Int) (hk : 0 ≤ k ∧ k < s.es.length) (hph : (ruO (s.F k)).ph = 1) (hco : (1 : Int) < n) (hw : (ruO (s.F k)).w 1 = true) :
    Calls Try.prog 31 #[.pointer (some ⟨p, 0, none⟩), .int .i64 k, .int .i64 1] w fun e w' => e = .returned (.tuple #[.bool (noneW ((ruO (s.F k)).clear 1).w), .int .i64 0]) ∧ Mn w' B p t g b n (M + 1) ⟨s.es, updI s.F k (some ((ruO (s.F k)).drop 1))⟩ ∧ Gt w w' g b := by
  obtain ⟨c0, c1, c2⟩ := h.cells
  have HH := Lib.hid h
  have hk15 : (Lit.int .i64 k).wf = true := wf_small hk.1 (by have := h.ok.len.2; omega)
  have HG := Lib.hid (get_yes t g s.es k w h.tb hk.1 hk.2)
  have HK := Lib.hid hk
  have pl := h.lt.1
  have HL := Lib.hid (fun (W : World) (hb : Below w.heap.size w W) => (h.ext hb).mp.look hk15)
  have HKW := Lib.hid (key_int hk15)
  obtain ⟨r, hr⟩ : ∃ r, r = ruO (s.F k) := ⟨_, rfl⟩
  rw [← hr] at HL
  unfold Ru.val at HL
  have HR := Lib.hid hr
  rw [← hr] at hph hw ⊢
  rw [hph, hw] at HL
  have ec2 : decide ((1 : Int) ≥ n) = false := by simp; omega
  have ec3 : decide (n ≤ (1 : Int)) = false := by simp; omega
  have hq := eqW4 (r.w 0) false (r.w 2) (r.w 3)
  have HOK : Hid (0 ≤ k ∧ k < s.es.length ∧ r.a.gr = k ∧ ownB r.th = true) := Lib.hid (by
    obtain ⟨r', hr'⟩ := Ms.some_of (s := s) (k := k) (by rw [← hr, hph]; omega)
    have h9 := h.ok.run k r' hr'
    have h8 : r = r' := by rw [hr, hr']; rfl
    rw [h8]
    exact ⟨h9.1, h9.2.1, h9.2.2.1, h9.2.2.2.2⟩)
  have HN : Hid (noneW (r.clear 1).w = noneQ (r.w 0) false (r.w 2) (r.w 3)) := Lib.hid rfl
  have HPH := Lib.hid hph
  rw [HN.out]
  clear h hk hk15 hr hph hw hco
  cases hn : noneQ (r.w 0) false (r.w 2) (r.w 3) with
  | true =>
    have HRD : Hid (r.drop 1 = ⟨r.a, r.th, r.sc, 2, fun i => if i = 1 then false else r.w i⟩) := Lib.hid (by unfold Ru.drop; rw [HN.out, hn]; rfl)
    rw [hn] at hq
    clear hn
    go_enter Try.func31, Try.ntmps31
    go_wp2_with fail
    refine HG.out.mono ?_
    rintro e w1 ⟨rfl, hb⟩
    obtain ⟨d0, d1, d2⟩ := (HH.out.ext hb).cells
    have pl1 := (HH.out.ext hb).lt.1
    have hl := HL.out (w1.alloc (.cells #[.int .i64 (atE s.es k.toNat).1, .bool (atE s.es k.toNat).2] 55)) (ext_trans hb (ext_alloc _ (Below.refl _ _)))
    have hb3 : Below w1.heap.size w1 ((w1.alloc (.cells #[.int .i64 (atE s.es k.toNat).1, .bool (atE s.es k.toNat).2] 55)).alloc (.cells #[.int .i64 r.a.co, .int .i64 r.a.wo, .int .i64 r.a.ca, .int .i64 r.a.gr, .int .i64 r.a.to, .int .i64 r.th, .bool r.sc, .int .i64 2, .bool (r.w 0), .bool false, .bool (r.w 2), .bool (r.w 3)] 114)) := ext_alloc _ (ext_alloc _ (Below.refl _ _))
    have hx3 : ((w1.alloc (.cells #[.int .i64 (atE s.es k.toNat).1, .bool (atE s.es k.toNat).2] 55)).alloc (.cells #[.int .i64 r.a.co, .int .i64 r.a.wo, .int .i64 r.a.ca, .int .i64 r.a.gr, .int .i64 r.a.to, .int .i64 r.th, .bool r.sc, .int .i64 2, .bool (r.w 0), .bool false, .bool (r.w 2), .bool (r.w 3)] 114)).heap[w1.heap.size + 1]? = some (.cells #[.int .i64 r.a.co, .int .i64 r.a.wo, .int .i64 r.a.ca, .int .i64 r.a.gr, .int .i64 r.a.to, .int .i64 r.th, .bool r.sc, .int .i64 2, .bool (r.w 0), .bool false, .bool (r.w 2), .bool (r.w 3)] 114 (0, 0)) := alNew (by simp)
    have HP3 := Lib.hid (And.intro (ext_trans hb hb3) hx3)
    clear hb3 hx3
    go_wp2_with fail
    clear d0 d1 d2 pl1 hl
    obtain ⟨w3, hw3⟩ : ∃ w3, w3 = (w1.alloc (.cells #[.int .i64 (atE s.es k.toNat).1, .bool (atE s.es k.toNat).2] 55)).alloc (.cells #[.int .i64 r.a.co, .int .i64 r.a.wo, .int .i64 r.a.ca, .int .i64 r.a.gr, .int .i64 r.a.to, .int .i64 r.th, .bool r.sc, .int .i64 2, .bool (r.w 0), .bool false, .bool (r.w 2), .bool (r.w 3)] 114) := ⟨_, rfl⟩
    rw [← hw3] at HP3 ⊢
    clear hw3
    have hh3 := HH.out.ext HP3.out.1
    obtain ⟨D, hD, hF⟩ := hh3.mp
    have HM3 := Lib.hid (And.intro hh3 (And.intro hD hF))
    obtain ⟨d0, d1, d2⟩ := hh3.cells
    have pl3 := hh3.lt.1
    have x3 := HP3.out.2
    obtain ⟨y0, y1, y2, y3, y4, y5, y6, y7, y8, y9, y10, y11⟩ := twelve_at x3
    have xl := lt_of x3
    clear hh3 hD hF x3
    go_still_tail 6, (by kernel_rfl)
    change wpList _ _ _ _ _ w3.drew
    go_wp2_with (at_mapUpdate; refine wpList_mapUpdate_own _ rfl _ _ _ 74 rfl 3 114 keyed_int Try.underlying74 RV b M D rfl HM3.out.2.1.drew (by unfold maxLen; omega) _ _ (.int .i64 k) rfl rfl HKW.out _ [] rfl ?_)
    intro w9 hown hgrow
    have hmn : Mn w9 B p t g b n (M + 1) ⟨s.es, updI s.F k (some (r.drop 1))⟩ := (HM3.out.1.ext (ext_drew (Below.refl _ _))).put (r.drop 1) k HM3.out.2.1.drew HM3.out.2.2 (by rw [HRD.out]; exact hown) hgrow (by rw [HRD.out]; exact ⟨HOK.out.1, HOK.out.2.1, HOK.out.2.2.1, by simp, HOK.out.2.2.2⟩)
    have HRES := Lib.hid (And.intro hmn ((Gt.of_below (ext_trans HP3.out.1 (ext_drew (Below.refl _ _)))).trans (Gt.of_grown (g := g) (b := b) hgrow (.inr rfl))))
    clear hown hgrow hmn y0 y1 y2 y3 y4 y5 y6 y7 y8 y9 y10 y11 xl d0 d1 d2 pl3
    go_wp2_with fail
    go_ret2
    exact ⟨rfl, HRES.out.1, HRES.out.2⟩
  | false =>
    have HRD : Hid (r.drop 1 = ⟨r.a, r.th, r.sc, 1, fun i => if i = 1 then false else r.w i⟩) := Lib.hid (by unfold Ru.drop; rw [HN.out, hn]; simp [Ru.clear, HPH.out])
    rw [hn] at hq
    clear hn
    go_enter Try.func31, Try.ntmps31
    go_wp2_with fail
    refine HG.out.mono ?_
    rintro e w1 ⟨rfl, hb⟩
    obtain ⟨d0, d1, d2⟩ := (HH.out.ext hb).cells
    have pl1 := (HH.out.ext hb).lt.1
    have hl := HL.out (w1.alloc (.cells #[.int .i64 (atE s.es k.toNat).1, .bool (atE s.es k.toNat).2] 55)) (ext_trans hb (ext_alloc _ (Below.refl _ _)))
    have hb3 : Below w1.heap.size w1 ((w1.alloc (.cells #[.int .i64 (atE s.es k.toNat).1, .bool (atE s.es k.toNat).2] 55)).alloc (.cells #[.int .i64 r.a.co, .int .i64 r.a.wo, .int .i64 r.a.ca, .int .i64 r.a.gr, .int .i64 r.a.to, .int .i64 r.th, .bool r.sc, .int .i64 1, .bool (r.w 0), .bool false, .bool (r.w 2), .bool (r.w 3)] 114)) := ext_alloc _ (ext_alloc _ (Below.refl _ _))
    have hx3 : ((w1.alloc (.cells #[.int .i64 (atE s.es k.toNat).1, .bool (atE s.es k.toNat).2] 55)).alloc (.cells #[.int .i64 r.a.co, .int .i64 r.a.wo, .int .i64 r.a.ca, .int .i64 r.a.gr, .int .i64 r.a.to, .int .i64 r.th, .bool r.sc, .int .i64 1, .bool (r.w 0), .bool false, .bool (r.w 2), .bool (r.w 3)] 114)).heap[w1.heap.size + 1]? = some (.cells #[.int .i64 r.a.co, .int .i64 r.a.wo, .int .i64 r.a.ca, .int .i64 r.a.gr, .int .i64 r.a.to, .int .i64 r.th, .bool r.sc, .int .i64 1, .bool (r.w 0), .bool false, .bool (r.w 2), .bool (r.w 3)] 114 (0, 0)) := alNew (by simp)
    have HP3 := Lib.hid (And.intro (ext_trans hb hb3) hx3)
    clear hb3 hx3
    go_wp2_with fail
    clear d0 d1 d2 pl1 hl
    obtain ⟨w3, hw3⟩ : ∃ w3, w3 = (w1.alloc (.cells #[.int .i64 (atE s.es k.toNat).1, .bool (atE s.es k.toNat).2] 55)).alloc (.cells #[.int .i64 r.a.co, .int .i64 r.a.wo, .int .i64 r.a.ca, .int .i64 r.a.gr, .int .i64 r.a.to, .int .i64 r.th, .bool r.sc, .int .i64 1, .bool (r.w 0), .bool false, .bool (r.w 2), .bool (r.w 3)] 114) := ⟨_, rfl⟩
    rw [← hw3] at HP3 ⊢
    clear hw3
    have hh3 := HH.out.ext HP3.out.1
    obtain ⟨D, hD, hF⟩ := hh3.mp
    have HM3 := Lib.hid (And.intro hh3 (And.intro hD hF))
    obtain ⟨d0, d1, d2⟩ := hh3.cells
    have pl3 := hh3.lt.1
    have x3 := HP3.out.2
    obtain ⟨y0, y1, y2, y3, y4, y5, y6, y7, y8, y9, y10, y11⟩ := twelve_at x3
    have xl := lt_of x3
    clear hh3 hD hF x3
    go_still_tail 6, (by kernel_rfl)
    change wpList _ _ _ _ _ w3.drew
    go_wp2_with (at_mapUpdate; refine wpList_mapUpdate_own _ rfl _ _ _ 74 rfl 3 114 keyed_int Try.underlying74 RV b M D rfl HM3.out.2.1.drew (by unfold maxLen; omega) _ _ (.int .i64 k) rfl rfl HKW.out _ [] rfl ?_)
    intro w9 hown hgrow
    have hmn : Mn w9 B p t g b n (M + 1) ⟨s.es, updI s.F k (some (r.drop 1))⟩ := (HM3.out.1.ext (ext_drew (Below.refl _ _))).put (r.drop 1) k HM3.out.2.1.drew HM3.out.2.2 (by rw [HRD.out]; exact hown) hgrow (by rw [HRD.out]; exact ⟨HOK.out.1, HOK.out.2.1, HOK.out.2.2.1, by simp, HOK.out.2.2.2⟩)
    have HRES := Lib.hid (And.intro hmn ((Gt.of_below (ext_trans HP3.out.1 (ext_drew (Below.refl _ _)))).trans (Gt.of_grown (g := g) (b := b) hgrow (.inr rfl))))
    clear hown hgrow hmn y0 y1 y2 y3 y4 y5 y6 y7 y8 y9 y10 y11 xl d0 d1 d2 pl3
    go_wp2_with fail
    go_ret2
    exact ⟨rfl, HRES.out.1, HRES.out.2⟩
set_option maxRecDepth 100000 in
set_option maxHeartbeats 4000000 in
theorem mdrop_y2 (h : Mn w B p t g b n M s) (hM : M < 1000) (k : Int) (hk : 0 ≤ k ∧ k < s.es.length) (hph : (ruO (s.F k)).ph = 1) (hco : (2 : Int) < n) (hw : (ruO (s.F k)).w 2 = true) :
    Calls Try.prog 31 #[.pointer (some ⟨p, 0, none⟩), .int .i64 k, .int .i64 2] w fun e w' => e = .returned (.tuple #[.bool (noneW ((ruO (s.F k)).clear 2).w), .int .i64 0]) ∧ Mn w' B p t g b n (M + 1) ⟨s.es, updI s.F k (some ((ruO (s.F k)).drop 2))⟩ ∧ Gt w w' g b := by
  obtain ⟨c0, c1, c2⟩ := h.cells
  have HH := Lib.hid h
  have hk15 : (Lit.int .i64 k).wf = true := wf_small hk.1 (by have := h.ok.len.2; omega)
  have HG := Lib.hid (get_yes t g s.es k w h.tb hk.1 hk.2)
  have HK := Lib.hid hk
  have pl := h.lt.1
  have HL := Lib.hid (fun (W : World) (hb : Below w.heap.size w W) => (h.ext hb).mp.look hk15)
  have HKW := Lib.hid (key_int hk15)
  obtain ⟨r, hr⟩ : ∃ r, r = ruO (s.F k) := ⟨_, rfl⟩
  rw [← hr] at HL
  unfold Ru.val at HL
  have HR := Lib.hid hr
  rw [← hr] at hph hw ⊢
  rw [hph, hw] at HL
  have ec2 : decide ((2 : Int) ≥ n) = false := by simp; omega
  have ec3 : decide (n ≤ (2 : Int)) = false := by simp; omega
  have hq := eqW4 (r.w 0) (r.w 1) false (r.w 3)
  have HOK : Hid (0 ≤ k ∧ k < s.es.length ∧ r.a.gr = k ∧ ownB r.th = true) := Lib.hid (by
    obtain ⟨r', hr'⟩ := Ms.some_of (s := s) (k := k) (by rw [← hr, hph]; omega)
    have h9 := h.ok.run k r' hr'
    have h8 : r = r' := by rw [hr, hr']; rfl
    rw [h8]
    exact ⟨h9.1, h9.2.1, h9.2.2.1, h9.2.2.2.2⟩)
  have HN : Hid (noneW (r.clear 2).w = noneQ (r.w 0) (r.w 1) false (r.w 3)) := Lib.hid rfl
  have HPH := Lib.hid hph
  rw [HN.out]
  clear h hk hk15 hr hph hw hco
  cases hn : noneQ (r.w 0) (r.w 1) false (r.w 3) with
  | true =>
    have HRD : Hid (r.drop 2 = ⟨r.a, r.th, r.sc, 2, fun i => if i = 2 then false else r.w i⟩) := Lib.hid (by unfold Ru.drop; rw [HN.out, hn]; rfl)
    rw [hn] at hq
    clear hn
    go_enter Try.func31, Try.ntmps31
    go_wp2_with fail
    refine HG.out.mono ?_
    rintro e w1 ⟨rfl, hb⟩
    obtain ⟨d0, d1, d2⟩ := (HH.out.ext hb).cells
    have pl1 := (HH.out.ext hb).lt.1
    have hl := HL.out (w1.alloc (.cells #[.int .i64 (atE s.es k.toNat).1, .bool (atE s.es k.toNat).2] 55)) (ext_trans hb (ext_alloc _ (Below.refl _ _)))
    have hb3 : Below w1.heap.size w1 ((w1.alloc (.cells #[.int .i64 (atE s.es k.toNat).1, .bool (atE s.es k.toNat).2] 55)).alloc (.cells #[.int .i64 r.a.co, .int .i64 r.a.wo, .int .i64 r.a.ca, .int .i64 r.a.gr, .int .i64 r.a.to, .int .i64 r.th, .bool r.sc, .int .i64 2, .bool (r.w 0), .bool (r.w 1), .bool false, .bool (r.w 3)] 114)) := ext_alloc _ (ext_alloc _ (Below.refl _ _))
    have hx3 : ((w1.alloc (.cells #[.int .i64 (atE s.es k.toNat).1, .bool (atE s.es k.toNat).2] 55)).alloc (.cells #[.int .i64 r.a.co, .int .i64 r.a.wo, .int .i64 r.a.ca, .int .i64 r.a.gr, .int .i64 r.a.to, .int .i64 r.th, .bool r.sc, .int .i64 2, .bool (r.w 0), .bool (r.w 1), .bool false, .bool (r.w 3)] 114)).heap[w1.heap.size + 1]? = some (.cells #[.int .i64 r.a.co, .int .i64 r.a.wo, .int .i64 r.a.ca, .int .i64 r.a.gr, .int .i64 r.a.to, .int .i64 r.th, .bool r.sc, .int .i64 2, .bool (r.w 0), .bool (r.w 1), .bool false, .bool (r.w 3)] 114 (0, 0)) := alNew (by simp)
    have HP3 := Lib.hid (And.intro (ext_trans hb hb3) hx3)
    clear hb3 hx3
    go_wp2_with fail
    clear d0 d1 d2 pl1 hl
    obtain ⟨w3, hw3⟩ : ∃ w3, w3 = (w1.alloc (.cells #[.int .i64 (atE s.es k.toNat).1, .bool (atE s.es k.toNat).2] 55)).alloc (.cells #[.int .i64 r.a.co, .int .i64 r.a.wo, .int .i64 r.a.ca, .int .i64 r.a.gr, .int .i64 r.a.to, .int .i64 r.th, .bool r.sc, .int .i64 2, .bool (r.w 0), .bool (r.w 1), .bool false, .bool (r.w 3)] 114) := ⟨_, rfl⟩
    rw [← hw3] at HP3 ⊢
    clear hw3
    have hh3 := HH.out.ext HP3.out.1
    obtain ⟨D, hD, hF⟩ := hh3.mp
    have HM3 := Lib.hid (And.intro hh3 (And.intro hD hF))
    obtain ⟨d0, d1, d2⟩ := hh3.cells
    have pl3 := hh3.lt.1
    have x3 := HP3.out.2
    obtain ⟨y0, y1, y2, y3, y4, y5, y6, y7, y8, y9, y10, y11⟩ := twelve_at x3
    have xl := lt_of x3
    clear hh3 hD hF x3
    go_still_tail 6, (by kernel_rfl)
    change wpList _ _ _ _ _ w3.drew
    go_wp2_with (at_mapUpdate; refine wpList_mapUpdate_own _ rfl _ _ _ 74 rfl 3 114 keyed_int Try.underlying74 RV b M D rfl HM3.out.2.1.drew (by unfold maxLen; omega) _ _ (.int .i64 k) rfl rfl HKW.out _ [] rfl ?_)
    intro w9 hown hgrow
    have hmn : Mn w9 B p t g b n (M + 1) ⟨s.es, updI s.F k (some (r.drop 2))⟩ := (HM3.out.1.ext (ext_drew (Below.refl _ _))).put (r.drop 2) k HM3.out.2.1.drew HM3.out.2.2 (by rw [HRD.out]; exact hown) hgrow (by rw [HRD.out]; exact ⟨HOK.out.1, HOK.out.2.1, HOK.out.2.2.1, by simp, HOK.out.2.2.2⟩)
    have HRES := Lib.hid (And.intro hmn ((Gt.of_below (ext_trans HP3.out.1 (ext_drew (Below.refl _ _)))).trans (Gt.of_grown (g := g) (b := b) hgrow (.inr rfl))))
    clear hown hgrow hmn y0 y1 y2 y3 y4 y5 y6 y7 y8 y9 y10 y11 xl d0 d1 d2 pl3
    go_wp2_with fail
    go_ret2
    exact ⟨rfl, HRES.out.1, HRES.out.2⟩
  | false =>
    have HRD : Hid (r.drop 2 = ⟨r.a, r.th, r.sc, 1, fun i => if i = 2 then false else r.w i⟩) := Lib.hid (by unfold Ru.drop; rw [HN.out, hn]; simp [Ru.clear, HPH.out])
    rw [hn] at hq
    clear hn
    go_enter Try.func31, Try.ntmps31
    go_wp2_with fail
    refine HG.out.mono ?_
    rintro e w1 ⟨rfl, hb⟩
    obtain ⟨d0, d1, d2⟩ := (HH.out.ext hb).cells
    have pl1 := (HH.out.ext hb).lt.1
    have hl := HL.out (w1.alloc (.cells #[.int .i64 (atE s.es k.toNat).1, .bool (atE s.es k.toNat).2] 55)) (ext_trans hb (ext_alloc _ (Below.refl _ _)))
    have hb3 : Below w1.heap.size w1 ((w1.alloc (.cells #[.int .i64 (atE s.es k.toNat).1, .bool (atE s.es k.toNat).2] 55)).alloc (.cells #[.int .i64 r.a.co, .int .i64 r.a.wo, .int .i64 r.a.ca, .int .i64 r.a.gr, .int .i64 r.a.to, .int .i64 r.th, .bool r.sc, .int .i64 1, .bool (r.w 0), .bool (r.w 1), .bool false, .bool (r.w 3)] 114)) := ext_alloc _ (ext_alloc _ (Below.refl _ _))
    have hx3 : ((w1.alloc (.cells #[.int .i64 (atE s.es k.toNat).1, .bool (atE s.es k.toNat).2] 55)).alloc (.cells #[.int .i64 r.a.co, .int .i64 r.a.wo, .int .i64 r.a.ca, .int .i64 r.a.gr, .int .i64 r.a.to, .int .i64 r.th, .bool r.sc, .int .i64 1, .bool (r.w 0), .bool (r.w 1), .bool false, .bool (r.w 3)] 114)).heap[w1.heap.size + 1]? = some (.cells #[.int .i64 r.a.co, .int .i64 r.a.wo, .int .i64 r.a.ca, .int .i64 r.a.gr, .int .i64 r.a.to, .int .i64 r.th, .bool r.sc, .int .i64 1, .bool (r.w 0), .bool (r.w 1), .bool false, .bool (r.w 3)] 114 (0, 0)) := alNew (by simp)
    have HP3 := Lib.hid (And.intro (ext_trans hb hb3) hx3)
    clear hb3 hx3
    go_wp2_with fail
    clear d0 d1 d2 pl1 hl
    obtain ⟨w3, hw3⟩ : ∃ w3, w3 = (w1.alloc (.cells #[.int .i64 (atE s.es k.toNat).1, .bool (atE s.es k.toNat).2] 55)).alloc (.cells #[.int .i64 r.a.co, .int .i64 r.a.wo, .int .i64 r.a.ca, .int .i64 r.a.gr, .int .i64 r.a.to, .int .i64 r.th, .bool r.sc, .int .i64 1, .bool (r.w 0), .bool (r.w 1), .bool false, .bool (r.w 3)] 114) := ⟨_, rfl⟩
    rw [← hw3] at HP3 ⊢
    clear hw3
    have hh3 := HH.out.ext HP3.out.1
    obtain ⟨D, hD, hF⟩ := hh3.mp
    have HM3 := Lib.hid (And.intro hh3 (And.intro hD hF))
    obtain ⟨d0, d1, d2⟩ := hh3.cells
    have pl3 := hh3.lt.1
    have x3 := HP3.out.2
    obtain ⟨y0, y1, y2, y3, y4, y5, y6, y7, y8, y9, y10, y11⟩ := twelve_at x3
    have xl := lt_of x3
    clear hh3 hD hF x3
    go_still_tail 6, (by kernel_rfl)
    change wpList _ _ _ _ _ w3.drew
    go_wp2_with (at_mapUpdate; refine wpList_mapUpdate_own _ rfl _ _ _ 74 rfl 3 114 keyed_int Try.underlying74 RV b M D rfl HM3.out.2.1.drew (by unfold maxLen; omega) _ _ (.int .i64 k) rfl rfl HKW.out _ [] rfl ?_)
    intro w9 hown hgrow
    have hmn : Mn w9 B p t g b n (M + 1) ⟨s.es, updI s.F k (some (r.drop 2))⟩ := (HM3.out.1.ext (ext_drew (Below.refl _ _))).put (r.drop 2) k HM3.out.2.1.drew HM3.out.2.2 (by rw [HRD.out]; exact hown) hgrow (by rw [HRD.out]; exact ⟨HOK.out.1, HOK.out.2.1, HOK.out.2.2.1, by simp, HOK.out.2.2.2⟩)
    have HRES := Lib.hid (And.intro hmn ((Gt.of_below (ext_trans HP3.out.1 (ext_drew (Below.refl _ _)))).trans (Gt.of_grown (g := g) (b := b) hgrow (.inr rfl))))
    clear hown hgrow hmn y0 y1 y2 y3 y4 y5 y6 y7 y8 y9 y10 y11 xl d0 d1 d2 pl3
    go_wp2_with fail
    go_ret2
    exact ⟨rfl, HRES.out.1, HRES.out.2⟩
set_option maxRecDepth 100000 in
set_option maxHeartbeats 4000000 in
theorem mdrop_y3 (h : Mn w B p t g b n M s) (hM : M < 1000) (k : Int) (hk : 0 ≤ k ∧ k < s.es.length) (hph : (ruO (s.F k)).ph = 1) (hco : (3 : Int) < n) (hw : (ruO (s.F k)).w 3 = true) :
    Calls Try.prog 31 #[.pointer (some ⟨p, 0, none⟩), .int .i64 k, .int .i64 3] w fun e w' => e = .returned (.tuple #[.bool (noneW ((ruO (s.F k)).clear 3).w), .int .i64 0]) ∧ Mn w' B p t g b n (M + 1) ⟨s.es, updI s.F k (some ((ruO (s.F k)).drop 3))⟩ ∧ Gt w w' g b := by
  obtain ⟨c0, c1, c2⟩ := h.cells
  have HH := Lib.hid h
  have hk15 : (Lit.int .i64 k).wf = true := wf_small hk.1 (by have := h.ok.len.2; omega)
  have HG := Lib.hid (get_yes t g s.es k w h.tb hk.1 hk.2)
  have HK := Lib.hid hk
  have pl := h.lt.1
  have HL := Lib.hid (fun (W : World) (hb : Below w.heap.size w W) => (h.ext hb).mp.look hk15)
  have HKW := Lib.hid (key_int hk15)
  obtain ⟨r, hr⟩ : ∃ r, r = ruO (s.F k) := ⟨_, rfl⟩
  rw [← hr] at HL
  unfold Ru.val at HL
  have HR := Lib.hid hr
  rw [← hr] at hph hw ⊢
  rw [hph, hw] at HL
  have ec2 : decide ((3 : Int) ≥ n) = false := by simp; omega
  have ec3 : decide (n ≤ (3 : Int)) = false := by simp; omega
  have hq := eqW4 (r.w 0) (r.w 1) (r.w 2) false
  have HOK : Hid (0 ≤ k ∧ k < s.es.length ∧ r.a.gr = k ∧ ownB r.th = true) := Lib.hid (by
    obtain ⟨r', hr'⟩ := Ms.some_of (s := s) (k := k) (by rw [← hr, hph]; omega)
    have h9 := h.ok.run k r' hr'
    have h8 : r = r' := by rw [hr, hr']; rfl
    rw [h8]
    exact ⟨h9.1, h9.2.1, h9.2.2.1, h9.2.2.2.2⟩)
  have HN : Hid (noneW (r.clear 3).w = noneQ (r.w 0) (r.w 1) (r.w 2) false) := Lib.hid rfl
  have HPH := Lib.hid hph
  rw [HN.out]
  clear h hk hk15 hr hph hw hco
  cases hn : noneQ (r.w 0) (r.w 1) (r.w 2) false with
  | true =>
    have HRD : Hid (r.drop 3 = ⟨r.a, r.th, r.sc, 2, fun i => if i = 3 then false else r.w i⟩) := Lib.hid (by unfold Ru.drop; rw [HN.out, hn]; rfl)
    rw [hn] at hq
    clear hn
    go_enter Try.func31, Try.ntmps31
    go_wp2_with fail
    refine HG.out.mono ?_
    rintro e w1 ⟨rfl, hb⟩
    obtain ⟨d0, d1, d2⟩ := (HH.out.ext hb).cells
    have pl1 := (HH.out.ext hb).lt.1
    have hl := HL.out (w1.alloc (.cells #[.int .i64 (atE s.es k.toNat).1, .bool (atE s.es k.toNat).2] 55)) (ext_trans hb (ext_alloc _ (Below.refl _ _)))
    have hb3 : Below w1.heap.size w1 ((w1.alloc (.cells #[.int .i64 (atE s.es k.toNat).1, .bool (atE s.es k.toNat).2] 55)).alloc (.cells #[.int .i64 r.a.co, .int .i64 r.a.wo, .int .i64 r.a.ca, .int .i64 r.a.gr, .int .i64 r.a.to, .int .i64 r.th, .bool r.sc, .int .i64 2, .bool (r.w 0), .bool (r.w 1), .bool (r.w 2), .bool false] 114)) := ext_alloc _ (ext_alloc _ (Below.refl _ _))
    have hx3 : ((w1.alloc (.cells #[.int .i64 (atE s.es k.toNat).1, .bool (atE s.es k.toNat).2] 55)).alloc (.cells #[.int .i64 r.a.co, .int .i64 r.a.wo, .int .i64 r.a.ca, .int .i64 r.a.gr, .int .i64 r.a.to, .int .i64 r.th, .bool r.sc, .int .i64 2, .bool (r.w 0), .bool (r.w 1), .bool (r.w 2), .bool false] 114)).heap[w1.heap.size + 1]? = some (.cells #[.int .i64 r.a.co, .int .i64 r.a.wo, .int .i64 r.a.ca, .int .i64 r.a.gr, .int .i64 r.a.to, .int .i64 r.th, .bool r.sc, .int .i64 2, .bool (r.w 0), .bool (r.w 1), .bool (r.w 2), .bool false] 114 (0, 0)) := alNew (by simp)
    have HP3 := Lib.hid (And.intro (ext_trans hb hb3) hx3)
    clear hb3 hx3
    go_wp2_with fail
    clear d0 d1 d2 pl1 hl
    obtain ⟨w3, hw3⟩ : ∃ w3, w3 = (w1.alloc (.cells #[.int .i64 (atE s.es k.toNat).1, .bool (atE s.es k.toNat).2] 55)).alloc (.cells #[.int .i64 r.a.co, .int .i64 r.a.wo, .int .i64 r.a.ca, .int .i64 r.a.gr, .int .i64 r.a.to, .int .i64 r.th, .bool r.sc, .int .i64 2, .bool (r.w 0), .bool (r.w 1), .bool (r.w 2), .bool false] 114) := ⟨_, rfl⟩
    rw [← hw3] at HP3 ⊢
    clear hw3
    have hh3 := HH.out.ext HP3.out.1
    obtain ⟨D, hD, hF⟩ := hh3.mp
    have HM3 := Lib.hid (And.intro hh3 (And.intro hD hF))
    obtain ⟨d0, d1, d2⟩ := hh3.cells
    have pl3 := hh3.lt.1
    have x3 := HP3.out.2
    obtain ⟨y0, y1, y2, y3, y4, y5, y6, y7, y8, y9, y10, y11⟩ := twelve_at x3
    have xl := lt_of x3
    clear hh3 hD hF x3
    go_still_tail 6, (by kernel_rfl)
    change wpList _ _ _ _ _ w3.drew
    go_wp2_with (at_mapUpdate; refine wpList_mapUpdate_own _ rfl _ _ _ 74 rfl 3 114 keyed_int Try.underlying74 RV b M D rfl HM3.out.2.1.drew (by unfold maxLen; omega) _ _ (.int .i64 k) rfl rfl HKW.out _ [] rfl ?_)
    intro w9 hown hgrow
    have hmn : Mn w9 B p t g b n (M + 1) ⟨s.es, updI s.F k (some (r.drop 3))⟩ := (HM3.out.1.ext (ext_drew (Below.refl _ _))).put (r.drop 3) k HM3.out.2.1.drew HM3.out.2.2 (by rw [HRD.out]; exact hown) hgrow (by rw [HRD.out]; exact ⟨HOK.out.1, HOK.out.2.1, HOK.out.2.2.1, by simp, HOK.out.2.2.2⟩)
    have HRES := Lib.hid (And.intro hmn ((Gt.of_below (ext_trans HP3.out.1 (ext_drew (Below.refl _ _)))).trans (Gt.of_grown (g := g) (b := b) hgrow (.inr rfl))))
    clear hown hgrow hmn y0 y1 y2 y3 y4 y5 y6 y7 y8 y9 y10 y11 xl d0 d1 d2 pl3
    go_wp2_with fail
    go_ret2
    exact ⟨rfl, HRES.out.1, HRES.out.2⟩
  | false =>
    have HRD : Hid (r.drop 3 = ⟨r.a, r.th, r.sc, 1, fun i => if i = 3 then false else r.w i⟩) := Lib.hid (by unfold Ru.drop; rw [HN.out, hn]; simp [Ru.clear, HPH.out])
    rw [hn] at hq
    clear hn
    go_enter Try.func31, Try.ntmps31
    go_wp2_with fail
    refine HG.out.mono ?_
    rintro e w1 ⟨rfl, hb⟩
    obtain ⟨d0, d1, d2⟩ := (HH.out.ext hb).cells
    have pl1 := (HH.out.ext hb).lt.1
    have hl := HL.out (w1.alloc (.cells #[.int .i64 (atE s.es k.toNat).1, .bool (atE s.es k.toNat).2] 55)) (ext_trans hb (ext_alloc _ (Below.refl _ _)))
    have hb3 : Below w1.heap.size w1 ((w1.alloc (.cells #[.int .i64 (atE s.es k.toNat).1, .bool (atE s.es k.toNat).2] 55)).alloc (.cells #[.int .i64 r.a.co, .int .i64 r.a.wo, .int .i64 r.a.ca, .int .i64 r.a.gr, .int .i64 r.a.to, .int .i64 r.th, .bool r.sc, .int .i64 1, .bool (r.w 0), .bool (r.w 1), .bool (r.w 2), .bool false] 114)) := ext_alloc _ (ext_alloc _ (Below.refl _ _))
    have hx3 : ((w1.alloc (.cells #[.int .i64 (atE s.es k.toNat).1, .bool (atE s.es k.toNat).2] 55)).alloc (.cells #[.int .i64 r.a.co, .int .i64 r.a.wo, .int .i64 r.a.ca, .int .i64 r.a.gr, .int .i64 r.a.to, .int .i64 r.th, .bool r.sc, .int .i64 1, .bool (r.w 0), .bool (r.w 1), .bool (r.w 2), .bool false] 114)).heap[w1.heap.size + 1]? = some (.cells #[.int .i64 r.a.co, .int .i64 r.a.wo, .int .i64 r.a.ca, .int .i64 r.a.gr, .int .i64 r.a.to, .int .i64 r.th, .bool r.sc, .int .i64 1, .bool (r.w 0), .bool (r.w 1), .bool (r.w 2), .bool false] 114 (0, 0)) := alNew (by simp)
    have HP3 := Lib.hid (And.intro (ext_trans hb hb3) hx3)
    clear hb3 hx3
    go_wp2_with fail
    clear d0 d1 d2 pl1 hl
    obtain ⟨w3, hw3⟩ : ∃ w3, w3 = (w1.alloc (.cells #[.int .i64 (atE s.es k.toNat).1, .bool (atE s.es k.toNat).2] 55)).alloc (.cells #[.int .i64 r.a.co, .int .i64 r.a.wo, .int .i64 r.a.ca, .int .i64 r.a.gr, .int .i64 r.a.to, .int .i64 r.th, .bool r.sc, .int .i64 1, .bool (r.w 0), .bool (r.w 1), .bool (r.w 2), .bool false] 114) := ⟨_, rfl⟩
    rw [← hw3] at HP3 ⊢
    clear hw3
    have hh3 := HH.out.ext HP3.out.1
    obtain ⟨D, hD, hF⟩ := hh3.mp
    have HM3 := Lib.hid (And.intro hh3 (And.intro hD hF))
    obtain ⟨d0, d1, d2⟩ := hh3.cells
    have pl3 := hh3.lt.1
    have x3 := HP3.out.2
    obtain ⟨y0, y1, y2, y3, y4, y5, y6, y7, y8, y9, y10, y11⟩ := twelve_at x3
    have xl := lt_of x3
    clear hh3 hD hF x3
    go_still_tail 6, (by kernel_rfl)
    change wpList _ _ _ _ _ w3.drew
    go_wp2_with (at_mapUpdate; refine wpList_mapUpdate_own _ rfl _ _ _ 74 rfl 3 114 keyed_int Try.underlying74 RV b M D rfl HM3.out.2.1.drew (by unfold maxLen; omega) _ _ (.int .i64 k) rfl rfl HKW.out _ [] rfl ?_)
    intro w9 hown hgrow
    have hmn : Mn w9 B p t g b n (M + 1) ⟨s.es, updI s.F k (some (r.drop 3))⟩ := (HM3.out.1.ext (ext_drew (Below.refl _ _))).put (r.drop 3) k HM3.out.2.1.drew HM3.out.2.2 (by rw [HRD.out]; exact hown) hgrow (by rw [HRD.out]; exact ⟨HOK.out.1, HOK.out.2.1, HOK.out.2.2.1, by simp, HOK.out.2.2.2⟩)
    have HRES := Lib.hid (And.intro hmn ((Gt.of_below (ext_trans HP3.out.1 (ext_drew (Below.refl _ _)))).trans (Gt.of_grown (g := g) (b := b) hgrow (.inr rfl))))
    clear hown hgrow hmn y0 y1 y2 y3 y4 y5 y6 y7 y8 y9 y10 y11 xl d0 d1 d2 pl3
    go_wp2_with fail
    go_ret2
    exact ⟨rfl, HRES.out.1, HRES.out.2⟩
theorem mdrop_any (h : Mn w B p t g b n M s) (hM : M < 1000) (k co : Int) :
    Calls Try.prog 31 #[.pointer (some ⟨p, 0, none⟩), .int .i64 k, .int .i64 co] w fun e w' => e = .returned (.tuple #[.bool (s.drop n k co).1, .int .i64 (s.drop n k co).2.1]) ∧ Mn w' B p t g b n (M + 1) (s.drop n k co).2.2 ∧ Gt w w' g b := by
  have fin : ∀ (r : Int) (hr : s.drop n k co = (false, r, s)), Calls Try.prog 31 #[.pointer (some ⟨p, 0, none⟩), .int .i64 k, .int .i64 co] w (fun e w' => e = .returned (.tuple #[.bool false, .int .i64 r]) ∧ Below w.heap.size w w') → Calls Try.prog 31 #[.pointer (some ⟨p, 0, none⟩), .int .i64 k, .int .i64 co] w fun e w' => e = .returned (.tuple #[.bool (s.drop n k co).1, .int .i64 (s.drop n k co).2.1]) ∧ Mn w' B p t g b n (M + 1) (s.drop n k co).2.2 ∧ Gt w w' g b := fun r hr hc => by
    rw [hr]
    exact hc.mono fun e w' ⟨he, hb⟩ => ⟨he, (h.ext hb).mono (by omega), Gt.of_below hb⟩
  by_cases hk : k < 0 ∨ s.es.length ≤ k
  · exact fin 10 (by unfold Ms.drop; rw [if_pos hk]) (mdrop_no h k co hk)
  have hk2 : 0 ≤ k ∧ k < s.es.length := by omega
  by_cases hph : (ruO (s.F k)).ph = 1
  case neg => exact fin 16 (by unfold Ms.drop; rw [if_neg hk, if_pos hph]) (mdrop_ph h k co hk2 hph)
  by_cases hco : co < 0 ∨ n ≤ co
  · exact fin 12 (by unfold Ms.drop; rw [if_neg hk, if_neg (by omega), if_pos (by omega)]) (mdrop_co h k co hk2 hph hco)
  have hn := h.hn
  have hc4 : co = 0 ∨ co = 1 ∨ co = 2 ∨ co = 3 := by omega
  have no : ∀ (j : Nat), co = j → (ruO (s.F k)).w j = false → s.drop n k co = (false, 12, s) := fun j hj hw => by
    subst hj
    unfold Ms.drop
    rw [if_neg hk, if_neg (by omega), if_pos (.inr (.inr hw))]
  have yes : ∀ (j : Nat), co = j → (ruO (s.F k)).w j = true → s.drop n k co = (noneW ((ruO (s.F k)).clear j).w, 0, ⟨s.es, updI s.F k (some ((ruO (s.F k)).drop j))⟩) := fun j hj hw => by
    subst hj
    unfold Ms.drop
    rw [if_neg hk, if_neg (by omega), if_neg (by
      rintro (h1 | h1 | h1)
      · omega
      · omega
      · have h2 : (ruO (s.F k)).w j = false := h1
        rw [hw] at h2
        cases h2)]
    rfl
  rcases hc4 with rfl | rfl | rfl | rfl
  · cases hw : (ruO (s.F k)).w 0 with
    | false => exact fin 12 (no 0 rfl hw) (mdrop_w0 h k hk2 hph (by omega) hw)
    | true =>
      rw [yes 0 rfl hw]
      exact mdrop_y0 h hM k hk2 hph (by omega) hw
  · cases hw : (ruO (s.F k)).w 1 with
    | false => exact fin 12 (no 1 rfl hw) (mdrop_w1 h k hk2 hph (by omega) hw)
    | true =>
      rw [yes 1 rfl hw]
      exact mdrop_y1 h hM k hk2 hph (by omega) hw
  · cases hw : (ruO (s.F k)).w 2 with
    | false => exact fin 12 (no 2 rfl hw) (mdrop_w2 h k hk2 hph (by omega) hw)
    | true =>
      rw [yes 2 rfl hw]
      exact mdrop_y2 h hM k hk2 hph (by omega) hw
  · cases hw : (ruO (s.F k)).w 3 with
    | false => exact fin 12 (no 3 rfl hw) (mdrop_w3 h k hk2 hph (by omega) hw)
    | true =>
      rw [yes 3 rfl hw]
      exact mdrop_y3 h hM k hk2 hph (by omega) hw
end

end Go.Proofs.Ytjggnhcdnfmmeaa
