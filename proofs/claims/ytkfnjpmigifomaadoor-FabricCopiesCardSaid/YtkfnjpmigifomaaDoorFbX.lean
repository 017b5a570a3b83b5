/- What this text holds: sending notes. Condition: the tables of kinds and of limits hold what their initialisers lay. -/
import Derived.Test.YtkfnjpmigifomaaDoorPlS
import Derived.Test.YtkfnjpmigifomaaDoorFbW
import Derived.Deep.RegionHeld3
import Derived.BigRegion
namespace Go.Proofs.YtkfnjpmigifomaaDoor
open Go.RowKit

/-- How many of each lane there are, in an array. -/
def Mo (w : World) (S : Nat) (s : Nat → Int) : Prop := ∃ cs, w.heap[S]? = some (.cells cs 132 (0, 0)) ∧ cs.size = 16 ∧ ∀ i, i < 16 → cs[i]? = some (.int .i64 (s i))
theorem Mo.cell {w : World} {S : Nat} {s : Nat → Int} (h : Mo w S s) {i : Nat} (hi : i < 16) : w.cell? ⟨S, i, none⟩ = some (.int .i64 (s i)) := by
  obtain ⟨cs, h1, _, h3⟩ := h
  simp [World.cell?, h1, h3 i hi]
theorem Mo.free {w : World} {S : Nat} {s : Nat → Int} (h : Mo w S s) (i : Nat) : w.frozen? ⟨S, i, none⟩ = false := by
  obtain ⟨cs, h1, _, h3⟩ := h
  simp [World.frozen?, h1]
theorem Mo.lt {w : World} {S : Nat} {s : Nat → Int} (h : Mo w S s) : S < w.heap.size := by
  obtain ⟨cs, h1, _, h3⟩ := h
  exact lt_of h1
theorem Mo.keep {w w' : World} {S : Nat} {s : Nat → Int} (h : Mo w S s) (k : w'.heap[S]? = w.heap[S]?) : Mo w' S s := by
  obtain ⟨cs, h1, h2⟩ := h
  exact ⟨cs, k.trans h1, h2⟩
theorem Mo.ext {w w' : World} {S : Nat} {s : Nat → Int} (h : Mo w S s) (hb : Below w.heap.size w w') : Mo w' S s := h.keep (hb.block _ h.lt)
theorem Mo.set {w : World} {S : Nat} {s : Nat → Int} (h : Mo w S s) {j : Nat} (hj : j < 16) (x : Int) : Mo (w.setCell ⟨S, j, none⟩ (.int .i64 x)) S (fun i => if i = j then x else s i) := by
  obtain ⟨cs, h1, h2, h3⟩ := h
  refine ⟨_, Joins.block_setCell (i := j) h1 (.int .i64 x), by simpa using h2, fun i hi => ?_⟩
  by_cases hij : i = j
  · subst hij
    simp [h2, hi]
  · show _ = some (Value.int .i64 (if i = j then x else s i))
    rw [if_neg hij, ← h3 i hi]
    simp [Ne.symm hij]
theorem Mo.of_eq {w : World} {S : Nat} {s s' : Nat → Int} (h : Mo w S s) (e : ∀ i, i < 16 → s i = s' i) : Mo w S s' := by
  obtain ⟨cs, h1, h2, h3⟩ := h
  exact ⟨cs, h1, h2, fun i hi => by rw [h3 i hi, e i hi]⟩
/-- The configuration in a fabric. -/
theorem Fa.cfg {w : World} {B p : Nat} {c : Cfg} {n : Nat} {P : Nat → Nat} {V : Nat → Value} {G : Nat → List Nt} (h : Fa w B p c n P V G) : w.cell? ⟨p, 0, none⟩ = some (.int .i64 c.co) ∧ w.cell? ⟨p, 1, none⟩ = some (.int .i64 c.gr) ∧ w.cell? ⟨p, 2, none⟩ = some (.int .i64 c.se) ∧ w.cell? ⟨p, 3, none⟩ = some (.int .i64 c.wa) ∧ w.cell? ⟨p, 4, none⟩ = some (.int .i64 c.de) ∧ w.cell? ⟨p, 5, none⟩ = some (.int .i64 c.en) ∧ w.cell? ⟨p, 6, none⟩ = some (.int .i64 c.ba) := by
  simp [World.cell?, h.box]
/-- What Send leaves. -/
def SendPost (w : World) (B p : Nat) (c : Cfg) (n : Nat) (P : Nat → Nat) (V : Nat → Value) (G : Nat → List Nt) (xs : List Nt) (w' : World) : Prop :=
  (sendR c n G xs ≠ 0 ∧ Below w.heap.size w w') ∨ (sendR c n G xs = 0 ∧ ∃ V', Fa w' B p c n P V' (addL G xs) ∧ Ft (FS n P V) w w' ∧ ∀ q, FS n P V' q → FS n P V q ∨ w.heap.size ≤ q)
theorem slN_one (W : World) (y : Nt) (t : TypeId) (g : Nat) (hg : g = W.heap.size) : SlN (W.alloc (.cells #[.int .i64 y.k, .int .i64 y.c, .int .i64 y.l, .int .i64 y.w, .int .i64 y.s, .int .i64 y.a, .int .i64 y.b, .bool y.d, .int .i64 y.n] t)) (some ⟨g, 0, none⟩) [y] := fun _ => by
  refine ⟨g, 0, rfl, by rw [hg]; simp, fun i hi j u hu => ?_⟩
  have h0 : i = 0 := by simp at hi; omega
  subst h0
  have := nine_at W y t g hg j u hu
  rw [Addr.add_lit] at this
  simpa using this
/-- Behind k puts. -/
def Sd (w wr : World) (B p : Nat) (c : Cfg) (n : Nat) (P : Nat → Nat) (V : Nat → Value) (G : Nat → List Nt) (xs : List Nt) (k : Nat) : Prop :=
  ∃ V', Fa wr B p c n P V' (addL G (xs.take k)) ∧ Ft (FS n P V) w wr ∧ ∀ q, FS n P V' q → FS n P V q ∨ w.heap.size ≤ q
theorem Sd.next {w wr W w7 : World} {B p : Nat} {c : Cfg} {n : Nat} {P : Nat → Nat} {V V' : Nat → Value} {G : Nat → List Nt} {xs : List Nt} {k i : Nat} {v' : Value} {y : Nt}
    (hst : Fa wr B p c n P V' (addL G (xs.take k)) ∧ Ft (FS n P V) w wr ∧ ∀ q, FS n P V' q → FS n P V q ∨ w.heap.size ≤ q) (hb : Below wr.heap.size wr W) (hB : B ≤ w.heap.size) (hi : i < n) (hk : k < xs.length) (hix : ixN (atN xs k) = i) (hy : y = atN xs k)
    (hl : ((addL G (xs.take k) i).length : Int) + 1 ≤ c.de) (g1 : La w7 (P i) c.de v' (addL G (xs.take k) i ++ [y])) (g2 : Tch W w7 (P i) (V' i).ownBlock) (g3 : ∀ g, v'.ownBlock = some g → (V' i).ownBlock = some g ∨ W.heap.size ≤ g) : Sd w w7 B p c n P V G xs (k + 1) := by
  have hs1 := hst.2.1.size
  have hs2 := hb.size
  obtain ⟨hFa, hFt, hnew⟩ := (hst.1.ext hb).turn hi (by omega) g1 g2 (fun g e => e) g3 (by simp; omega)
  refine ⟨upF V' i v', ?_, (hst.2.1.trans (Ft.of_below (S := FS n P V) hb) (fun b h => .inl h)).trans hFt hst.2.2, fun q hq => ?_⟩
  · rw [take_next xs hk, addL_snoc]
    unfold addN
    rw [hix, ← hy]
    exact hFa
  · rcases hnew q hq with h1 | h1
    · exact hst.2.2 q h1
    · exact .inr (by omega)
section
variable {w : World} {B p : Nat} {c : Cfg} {n : Nat} {P : Nat → Nat} {V : Nat → Value} {G : Nat → List Nt}
set_option maxRecDepth 100000 in
set_option maxHeartbeats 8000000 in
theorem fsend_any (h : Fa w B p c n P V G) (hB : B ≤ w.heap.size) (hL : Lims w) (hK : Kinds w) (hg : 1 < B ∧ 2 < B) (A : Option Addr) (cap : Nat) (xs : List Nt) (hx : SlN w A xs) (hA : ∀ a, A = some a → 0 < xs.length → ¬ FS n P V a.block) (hl : xs.length ≤ 20) :
    Calls Tryd.prog 32 #[.pointer (some ⟨p, 0, none⟩), .slice A xs.length cap] w fun e w' => e = .returned (.int .i64 (sendR c n G xs)) ∧ SendPost w B p c n P V G xs w' := by
  have HF := Lib.hid h
  have HL := Lib.hid hL
  have HK := Lib.hid hK
  have HX := Lib.hid hx
  have HA := Lib.hid hA
  have HG := Lib.hid (And.intro hB hg)
  have pl := h.lt
  clear h hL hK hx hA hg hB
  go_enter Tryd.func32, Tryd.ntmps32
  go_wp2_with fail
  go_loopg [22] xs.length (fun g s22 wr => ∃ k : Nat, s22 = .int .i64 k ∧ k + g = xs.length ∧ Hid (Below w.heap.size w wr ∧ ∀ j, j < k → chkN c (atN xs j) = 0))
  case atStart => exact ⟨0, rfl, by omega, Lib.hid ⟨Below.refl _ _, fun j hj => by omega⟩⟩
  case round =>
    obtain ⟨k, rfl, hk, HR⟩ := hrel
    by_cases hlt : k < xs.length
    · have ek : decide ((k : Int) < (xs.length : Int)) = true := by simp; omega
      have ek2 : decide (k < xs.length) = true := by simpa using hlt
      have HLT := Lib.hid (And.intro hk hlt)
      obtain ⟨bb, off, rfl, hbb, hcs⟩ := HX.out (by omega)
      have hB := HR.out.1
      have hbB : bb < wr.heap.size := Nat.lt_of_lt_of_le hbb hB.size
      obtain ⟨x, hxx⟩ : ∃ x, x = atN xs k := ⟨_, rfl⟩
      have HXX := Lib.hid hxx
      have cx : ∀ jj u, x.cells[jj]? = some u → wr.cell? ⟨bb, off + k * 9 + jj, none⟩ = some u := fun jj u hu => (hB.cell (p := ⟨bb, off + k * 9 + jj, none⟩) hbb).trans (hcs _ hlt jj u (hxx ▸ hu))
      have x0 : wr.cell? ⟨bb, off + k * 9, none⟩ = _ := cx 0 _ rfl
      have x1 := cx 1 _ rfl
      have x2 := cx 2 _ rfl
      have x3 := cx 3 _ rfl
      have x4 := cx 4 _ rfl
      have x5 := cx 5 _ rfl
      have x6 := cx 6 _ rfl
      have x7 := cx 7 _ rfl
      have x8 := cx 8 _ rfl
      clear cx hcs hxx hk hB
      go_wp2_with fail
      obtain ⟨w5, hw5⟩ : ∃ w5, w5 = wr.alloc (.cells #[.int .i64 x.k, .int .i64 x.c, .int .i64 x.l, .int .i64 x.w, .int .i64 x.s, .int .i64 x.a, .int .i64 x.b, .bool x.d, .int .i64 x.n] 74) := ⟨_, rfl⟩
      rw [← hw5]
      have hbx : BxN w5 wr.heap.size x := by rw [hw5]; exact alNew rfl
      have hb5 : Below w.heap.size w w5 := ext_trans HR.out.1 (by rw [hw5]; repeat (with_reducible first | exact Below.refl _ _ | assumption | (refine ext_next (by assumption) ?_) | apply ext_alloc | apply ext_past | apply ext_drew | apply ext_drewN))
      clear hw5 x0 x1 x2 x3 x4 x5 x6 x7 x8
      obtain ⟨z0, z1, z2, z3, z4, z5, z6, z7, z8⟩ := hbx.cell
      have zl := hbx.lt
      have hf5 := HF.out.ext hb5
      obtain ⟨k0, k1, k2, k3, k4, k5, k6⟩ := hf5.cfg
      have pl5 := hf5.lt
      have HB5 := Lib.hid hb5
      have HCK := Lib.hid (fun (W : World) (hb : Below w5.heap.size w5 W) => by have := ncheck_any c HF.out.ok x W (HL.out.ext (ext_trans HB5.out hb)) (HK.out.ext (ext_trans HB5.out hb)); unfold Nt.val at this; exact this)
      clear hbx hb5 hf5
      rcases chk_res c x with hq0 | hq0 | hq0
      · rw [hq0] at HCK
        have HQ0 := Lib.hid hq0
        clear hq0
        refine region_past (by kernel_rfl) (by kernel_rfl) ?_; (repeat (go_big_quiet_step ((go_at_call 73; exact calls_past (HCK.out _ (Past.below _)))))); refine wpQuiet_nil ?_; rintro _ ⟨p, rfl⟩
        go_wp2_with fail
        have HB6 := Lib.hid (ext_past p (ext_trans HB5.out (Below.refl _ _)))
        go_roundg (xs.length - (k + 1))
        case measure => have := HLT.out; omega
        case rel => exact ⟨k + 1, by go_num, by have := HLT.out; omega, Lib.hid ⟨HB6.out, fun j hj => by
          by_cases e : j = k
          · subst e; rw [← HXX.out]; exact HQ0.out
          · exact HR.out.2 j (by omega)⟩⟩
      · rw [hq0] at HCK
        have hsr : sendR c n G xs = 10 := by
          unfold sendR
          rw [firstBad_at c xs k HLT.out.2 HR.out.2 (by rw [← HXX.out, hq0]; omega), ← HXX.out, hq0]
          rfl
        have HSR := Lib.hid hsr
        clear hq0 hsr
        refine region_past (by kernel_rfl) (by kernel_rfl) ?_; (repeat (go_big_quiet_step ((go_at_call 73; exact calls_past (HCK.out _ (Past.below _)))))); refine wpQuiet_nil ?_; rintro _ ⟨p, rfl⟩
        go_wp2_with fail
        have HB6 := Lib.hid (ext_past p (ext_trans HB5.out (Below.refl _ _)))
        go_ret
        exact ⟨by rw [HSR.out]; rfl, .inl ⟨by rw [HSR.out]; omega, HB6.out⟩⟩
      · rw [hq0] at HCK
        have hsr : sendR c n G xs = 15 := by
          unfold sendR
          rw [firstBad_at c xs k HLT.out.2 HR.out.2 (by rw [← HXX.out, hq0]; omega), ← HXX.out, hq0]
          rfl
        have HSR := Lib.hid hsr
        clear hq0 hsr
        refine region_past (by kernel_rfl) (by kernel_rfl) ?_; (repeat (go_big_quiet_step ((go_at_call 73; exact calls_past (HCK.out _ (Past.below _)))))); refine wpQuiet_nil ?_; rintro _ ⟨p, rfl⟩
        go_wp2_with fail
        have HB6 := Lib.hid (ext_past p (ext_trans HB5.out (Below.refl _ _)))
        go_ret
        exact ⟨by rw [HSR.out]; rfl, .inl ⟨by rw [HSR.out]; omega, HB6.out⟩⟩
    · have ek : decide ((k : Int) < (xs.length : Int)) = false := by simp; omega
      have ek2 : decide (k < xs.length) = false := by simpa using hlt
      have HALL : Hid (∀ j, j < xs.length → chkN c (atN xs j) = 0) := Lib.hid (fun j hj => HR.out.2 j (by omega))
      have HB := Lib.hid HR.out.1
      clear HR hlt hk
      go_wp2_with fail
      obtain ⟨w2, hw2⟩ : ∃ w2, w2 = wr.alloc (.cells #[.int .i64 0, .int .i64 0, .int .i64 0, .int .i64 0, .int .i64 0, .int .i64 0, .int .i64 0, .int .i64 0, .int .i64 0, .int .i64 0, .int .i64 0, .int .i64 0, .int .i64 0, .int .i64 0, .int .i64 0, .int .i64 0] 132) := ⟨_, rfl⟩
      obtain ⟨M, hM⟩ : ∃ M, M = wr.heap.size := ⟨_, rfl⟩
      rw [← hw2, ← hM]
      have HM0 : Hid (Mo w2 M (fun i => cntN (xs.take 0) i)) := Lib.hid (by
        refine ⟨_, by rw [hw2, hM]; exact alNew rfl, rfl, fun i hi => ?_⟩
        have h1 : i = 0 ∨ i = 1 ∨ i = 2 ∨ i = 3 ∨ i = 4 ∨ i = 5 ∨ i = 6 ∨ i = 7 ∨ i = 8 ∨ i = 9 ∨ i = 10 ∨ i = 11 ∨ i = 12 ∨ i = 13 ∨ i = 14 ∨ i = 15 := by omega
        rcases h1 with rfl | rfl | rfl | rfl | rfl | rfl | rfl | rfl | rfl | rfl | rfl | rfl | rfl | rfl | rfl | rfl <;> rfl)
      have HBM : Hid (Below w.heap.size w w2 ∧ w.heap.size ≤ M) := Lib.hid ⟨ext_trans HB.out (by rw [hw2]; repeat (with_reducible first | exact Below.refl _ _ | assumption | (refine ext_next (by assumption) ?_) | apply ext_alloc | apply ext_past | apply ext_drew | apply ext_drewN)), by rw [hM]; exact HB.out.size⟩
      clear hw2 hM HB ek ek2
      go_loopg [38] xs.length (fun g s38 wr => ∃ k : Nat, s38 = .int .i64 k ∧ k + g = xs.length ∧ Hid (Below w.heap.size w wr ∧ Mo wr M (fun i => cntN (xs.take k) i) ∧ ∀ i, i < n → ((G i).length : Int) + cntN (xs.take k) i ≤ c.de))
      case atStart => exact ⟨0, rfl, by omega, Lib.hid ⟨HBM.out.1, HM0.out, fun i hi => by simpa [cntN] using HF.out.fit i hi⟩⟩
      case round =>
        obtain ⟨k, rfl, hk, HR⟩ := hrel
        by_cases hlt : k < xs.length
        · have ek : decide ((k : Int) < (xs.length : Int)) = true := by simp; omega
          have ek2 : decide (k < xs.length) = true := by simpa using hlt
          have HLT := Lib.hid (And.intro hk hlt)
          obtain ⟨bb, off, rfl, hbb, hcs⟩ := HX.out (by omega)
          have hB := HR.out.1
          have hbB : bb < wr.heap.size := Nat.lt_of_lt_of_le hbb hB.size
          obtain ⟨x, hxx⟩ : ∃ x, x = atN xs k := ⟨_, rfl⟩
          have HXX := Lib.hid hxx
          have hgd : gdN c x := by rw [hxx]; exact chk_gd (HALL.out k hlt)
          have cx : ∀ jj u, x.cells[jj]? = some u → wr.cell? ⟨bb, off + k * 9 + jj, none⟩ = some u := fun jj u hu => (hB.cell (p := ⟨bb, off + k * 9 + jj, none⟩) hbb).trans (hcs _ hlt jj u (hxx ▸ hu))
          have x0 : wr.cell? ⟨bb, off + k * 9, none⟩ = _ := cx 0 _ rfl
          have x1 := cx 1 _ rfl
          have x2 := cx 2 _ rfl
          have x3 := cx 3 _ rfl
          have x4 := cx 4 _ rfl
          have x5 := cx 5 _ rfl
          have x6 := cx 6 _ rfl
          have x7 := cx 7 _ rfl
          have x8 := cx 8 _ rfl
          obtain ⟨ix, hix, i, j, hi, hj, hij, hic, him⟩ : ∃ ix, ix = ixN x ∧ ∃ i j : Nat, x.c = i ∧ laneT x.k.toNat = j ∧ ix = i * 4 + j ∧ (i : Int) < c.co ∧ j < 4 := ⟨_, rfl, x.c.toNat, (laneT x.k.toNat).toNat, by have := hgd.2.1; omega, by have := laneT_bd x.k.toNat; omega, rfl, by have := hgd.2; omega, by have := laneT_bd x.k.toNat; omega⟩
          obtain ⟨kk, hkk, hk1, hk14⟩ : ∃ kk : Nat, x.k = kk ∧ 1 ≤ kk ∧ kk < 14 := ⟨x.k.toNat, by have := hgd.1; simp [kindB] at this; omega, by have := hgd.1; simp [kindB] at this; omega, by have := hgd.1; simp [kindB] at this; omega⟩
          have HLN := Lib.hid (fun (W : World) (hb : Below w.heap.size w W) => show Calls Tryd.prog 74 #[.int .i64 x.k] W (fun e w' => e = .returned (.tuple #[.int .i64 j, .int .i64 0]) ∧ w' = W) by
            have := nlane_ok kk hk1 hk14 W (HK.out.ext hb)
            rw [show laneT kk = j by rw [← hj, hkk]; rfl, ← hkk] at this
            exact this)
          rw [hi] at x1
          have HIX := Lib.hid (And.intro hix hij)
          have hi4 : (i : Int) < 4 := by have := HF.out.ok.1.2; omega
          have hj4 : (j : Int) < 4 := by omega
          have HIC := Lib.hid (And.intro hic him)
          clear cx hcs hxx hk hB hgd hix hij hic him hkk hk1 hk14
          obtain ⟨y, hy⟩ : ∃ y : Nt, y = { x with c := (i : Int) } := ⟨_, rfl⟩
          have hb5 : Below w.heap.size w (wr.alloc (.cells #[.int .i64 x.k, .int .i64 i, .int .i64 x.l, .int .i64 x.w, .int .i64 x.s, .int .i64 x.a, .int .i64 x.b, .bool x.d, .int .i64 x.n] 74)) := ext_trans HR.out.1 (by repeat (with_reducible first | exact Below.refl _ _ | assumption | (refine ext_next (by assumption) ?_) | apply ext_alloc | apply ext_past | apply ext_drew | apply ext_drewN))
          have hm5 := HR.out.2.1.ext (ext_alloc (.cells #[.int .i64 x.k, .int .i64 i, .int .i64 x.l, .int .i64 x.w, .int .i64 x.s, .int .i64 x.a, .int .i64 x.b, .bool x.d, .int .i64 x.n] 74) (Below.refl _ wr))
          have hbx : BxN (wr.alloc (.cells #[.int .i64 x.k, .int .i64 i, .int .i64 x.l, .int .i64 x.w, .int .i64 x.s, .int .i64 x.a, .int .i64 x.b, .bool x.d, .int .i64 x.n] 74)) wr.heap.size y := by rw [hy]; exact alNew rfl
          have HP5 := Lib.hid (And.intro hb5 (And.intro hm5 hbx))
          clear hb5 hm5 hbx
          go_wp2_with fail
          refine (HLN.out _ HP5.out.1).mono ?_
          rintro e w5 ⟨rfl, hw5⟩
          rw [← hw5] at HP5
          obtain ⟨hb5, hm5, hbx⟩ := HP5.out
          obtain ⟨z0, z1, z2, z3, z4, z5, z6, z7, z8⟩ := hbx.cell
          rw [show y.c = (i : Int) by rw [hy]] at z1
          have zl := hbx.lt
          obtain ⟨q, hq⟩ : ∃ q, q = cntN (xs.take k) ix := ⟨_, rfl⟩
          have hq20 : (q : Int) ≤ 20 := by have := cntN_len (xs.take k) ix; simp at this; omega
          have hx16 : i * 4 + j < 16 := by omega
          have mc := hm5.cell (i := i * 4 + j) hx16
          rw [← HIX.out.2, ← hq, HIX.out.2] at mc
          have mf := hm5.free (i * 4 + j)
          have ml := hm5.lt
          have HB5 := Lib.hid hb5
          have HMQ := Lib.hid (And.intro hm5 hq)
          have HML := Lib.hid (show M < wr.heap.size from HR.out.2.1.lt)
          clear hw5 hb5 hm5 hbx hq x0 x1 x2 x3 x4 x5 x6 x7 x8
          go_wp2_with fail
          go_region
          obtain ⟨w6, hw6⟩ : ∃ w6, w6 = (w5.setCell ⟨M, i * 4 + j, none⟩ (.int .i64 ((q : Int) + 1))).drew := ⟨_, rfl⟩
          rw [← hw6]
          have hm6 : Mo w6 M (fun i => cntN (xs.take (k + 1)) i) := by
            rw [hw6]
            refine (HMQ.out.1.set hx16 ((q : Int) + 1)).of_eq fun a _ => ?_
            have h1 := take_next xs HLT.out.2
            rw [← HXX.out] at h1
            rw [h1, cntN_snoc, ← HIX.out.1]
            by_cases e : a = i * 4 + j
            · rw [if_pos e, if_pos (by rw [HIX.out.2, e]), e, ← HIX.out.2, ← HMQ.out.2]
              simp
            · rw [if_neg e, if_neg (by rw [HIX.out.2]; exact fun h => e h.symm)]
              rfl
          have hb6 : Below w.heap.size w w6 := by rw [hw6]; exact ext_drew (HB5.out.setCell (p := ⟨M, i * 4 + j, none⟩) (by simpa using HBM.out.2) _)
          have hbx6 : BxN w6 wr.heap.size y := by
            have h1 := HML.out
            rw [hw6]
            exact (Below.heap_setCell _ _ _ _ (by simp; omega)).trans HP5.out.2.2
          have hmc := hm6.cell hx16
          rw [show (cntN (xs.take (k + 1)) (i * 4 + j) : Int) = (q : Int) + 1 by
            have h1 := take_next xs HLT.out.2
            rw [← HXX.out] at h1
            rw [h1, cntN_snoc, ← HIX.out.1, ← HIX.out.2, ← HMQ.out.2]
            simp] at hmc
          clear hw6 z0 z1 z2 z3 z4 z5 z6 z7 z8 zl mc mf ml
          obtain ⟨z0, z1, z2, z3, z4, z5, z6, z7, z8⟩ := hbx6.cell
          rw [show y.c = (i : Int) by rw [hy]] at z1
          have zl := hbx6.lt
          have ml := hm6.lt
          obtain ⟨r, hr⟩ : ∃ r : Int, r = c.de - (G (i * 4 + j)).length := ⟨_, rfl⟩
          have HB6 := Lib.hid hb6
          have HM6 := Lib.hid hm6
          have HRM := Lib.hid (fun (W : World) (hb : Below w6.heap.size w6 W) => show Calls Tryd.prog 71 #[.pointer (some ⟨p, 0, none⟩), .int .i64 i, .int .i64 j] W (fun e w' => e = .returned (.int .i64 r) ∧ Below W.heap.size W w') by
            have := froom_ok (HF.out.ext (ext_trans HB6.out hb)) HIC.out.1 HIC.out.2
            rw [← hr] at this
            exact this)
          have HRR := Lib.hid hr
          clear hb6 hm6 hbx6 hr
          go_wp2_with fail
          by_cases hfull : (q : Int) + 1 > r
          · have ef : decide ((q : Int) + 1 > r) = true := by simpa using hfull
            have hsr : sendR c n G xs = 11 := by
              unfold sendR
              rw [if_pos (firstBad_no c xs HALL.out), if_neg]
              intro h9
              have h1 := h9 ix (by have := HF.out.hn; have := HIX.out.2; have := HIC.out; omega)
              have h2 := cntN_take xs (k + 1) ix
              have h3 := take_next xs HLT.out.2
              rw [← HXX.out] at h3
              rw [h3, cntN_snoc, ← HIX.out.1, if_pos rfl, ← HMQ.out.2] at h2
              have h4 := HRR.out
              rw [← HIX.out.2] at h4
              omega
            have HSR := Lib.hid hsr
            clear hsr hfull
            refine region_past (by kernel_rfl) (by kernel_rfl) ?_; (repeat (go_big_quiet_step ((go_at_call 71; exact calls_past (HRM.out _ (Past.below _)))))); refine wpQuiet_nil ?_; rintro _ ⟨p, rfl⟩
            go_wp2_with fail
            have HB7 := Lib.hid (ext_past p (ext_trans HB6.out (Below.refl _ _)))
            go_ret
            exact ⟨by rw [HSR.out]; rfl, .inl ⟨by rw [HSR.out]; omega, HB7.out⟩⟩
          · have ef : decide ((q : Int) + 1 > r) = false := by simpa using hfull
            have HNF := Lib.hid hfull
            clear hfull
            refine region_past (by kernel_rfl) (by kernel_rfl) ?_; (repeat (go_big_quiet_step ((go_at_call 71; exact calls_past (HRM.out _ (Past.below _)))))); refine wpQuiet_nil ?_; rintro _ ⟨p, rfl⟩
            go_wp2_with fail
            have HB7 := Lib.hid (ext_past p (ext_trans HB6.out (Below.refl _ _)))
            have HM7 := Lib.hid (HM6.out.ext p.below)
            go_roundg (xs.length - (k + 1))
            case measure => have := HLT.out; omega
            case rel => exact ⟨k + 1, by go_num, by have := HLT.out; omega, Lib.hid ⟨HB7.out, HM7.out, fun a ha => by
              have h3 := take_next xs HLT.out.2
              rw [← HXX.out] at h3
              rw [h3, cntN_snoc, ← HIX.out.1]
              have h4 := HR.out.2.2 a ha
              by_cases e : ix = a
              · rw [if_pos e]
                have h5 := HNF.out
                have h6 := HRR.out
                have h7 := HMQ.out.2
                rw [← HIX.out.2, e] at h6
                rw [e] at h7
                simp
                omega
              · rw [if_neg e]; simpa using h4⟩⟩
        · have ek : decide ((k : Int) < (xs.length : Int)) = false := by simp; omega
          have ek2 : decide (k < xs.length) = false := by simpa using hlt
          obtain rfl : k = xs.length := by omega
          have HFT : Hid (∀ i, i < n → ((G i).length : Int) + cntN xs i ≤ c.de) := Lib.hid (fun i hi => by have := HR.out.2.2 i hi; rwa [List.take_length] at this)
          have HB := Lib.hid HR.out.1
          have HS0 : Hid (Sd w wr B p c n P V G xs 0) := Lib.hid ⟨V, by simpa [addL] using HF.out.ext HB.out, Ft.of_below HB.out, fun q hq => .inl hq⟩
          have HSR : Hid (sendR c n G xs = 0) := Lib.hid (by unfold sendR; rw [if_pos (firstBad_no c xs HALL.out), if_pos HFT.out])
          clear HR hlt hk ek ek2 HB HM0 HBM
          go_wp2_with fail
          go_loopg [75] xs.length (fun g s75 wr => ∃ k : Nat, s75 = .int .i64 k ∧ k + g = xs.length ∧ Hid (Sd w wr B p c n P V G xs k))
          case atStart => exact ⟨0, rfl, by omega, HS0⟩
          case round =>
            clear HS0
            obtain ⟨k, rfl, hk, HR⟩ := hrel
            by_cases hlt : k < xs.length
            · have ek : decide ((k : Int) < (xs.length : Int)) = true := by simp; omega
              have ek2 : decide (k < xs.length) = true := by simpa using hlt
              have HLT := Lib.hid (And.intro hk hlt)
              obtain ⟨bb, off, rfl, hbb, hcs⟩ := HX.out (by omega)
              obtain ⟨V', hfa, hft, hnw⟩ := HR.out
              have hbk : wr.heap[bb]? = w.heap[bb]? := hft.block bb hbb (HA.out _ rfl (by omega))
              have hkd : Kinds wr := HK.out.block (hft.block _ HK.out.lt (fun h9 => by have := (HF.out.fs h9).1; have := HG.out.2.2; omega))
              have hbB : bb < wr.heap.size := Nat.lt_of_lt_of_le hbb hft.size
              obtain ⟨x, hxx⟩ : ∃ x, x = atN xs k := ⟨_, rfl⟩
              have HXX := Lib.hid hxx
              have hgd : gdN c x := by rw [hxx]; exact chk_gd (HALL.out k hlt)
              have cx : ∀ jj u, x.cells[jj]? = some u → wr.cell? ⟨bb, off + k * 9 + jj, none⟩ = some u := fun jj u hu => (World.cell?_of_block (a := ⟨bb, off + k * 9 + jj, none⟩) hbk).trans (hcs _ hlt jj u (hxx ▸ hu))
              have x0 : wr.cell? ⟨bb, off + k * 9, none⟩ = _ := cx 0 _ rfl
              have x1 := cx 1 _ rfl
              have x2 := cx 2 _ rfl
              have x3 := cx 3 _ rfl
              have x4 := cx 4 _ rfl
              have x5 := cx 5 _ rfl
              have x6 := cx 6 _ rfl
              have x7 := cx 7 _ rfl
              have x8 := cx 8 _ rfl
              obtain ⟨ix, hix, i, j, hi, hj, hij, hic, him⟩ : ∃ ix, ix = ixN x ∧ ∃ i j : Nat, x.c = i ∧ laneT x.k.toNat = j ∧ ix = i * 4 + j ∧ (i : Int) < c.co ∧ j < 4 := ⟨_, rfl, x.c.toNat, (laneT x.k.toNat).toNat, by have := hgd.2.1; omega, by have := laneT_bd x.k.toNat; omega, rfl, by have := hgd.2; omega, by have := laneT_bd x.k.toNat; omega⟩
              obtain ⟨kk, hkk, hk1, hk14⟩ : ∃ kk : Nat, x.k = kk ∧ 1 ≤ kk ∧ kk < 14 := ⟨x.k.toNat, by have := hgd.1; simp [kindB] at this; omega, by have := hgd.1; simp [kindB] at this; omega, by have := hgd.1; simp [kindB] at this; omega⟩
              have HLN := Lib.hid (fun (W : World) (hb : Below wr.heap.size wr W) => show Calls Tryd.prog 74 #[.int .i64 x.k] W (fun e w' => e = .returned (.tuple #[.int .i64 j, .int .i64 0]) ∧ w' = W) by
                have := nlane_ok kk hk1 hk14 W (hkd.ext hb)
                rw [show laneT kk = j by rw [← hj, hkk]; rfl, ← hkk] at this
                exact this)
              rw [hi] at x1
              have HIX := Lib.hid (And.intro hix hij)
              have hi4 : (i : Int) < 4 := by have := HF.out.ok.1.2; omega
              have hj4 : (j : Int) < 4 := by omega
              have HIC := Lib.hid (And.intro hic him)
              obtain ⟨y, hy⟩ : ∃ y : Nt, y = ⟨x.k, (i : Int), x.l, x.w, x.s, x.a, x.b, x.d, x.n⟩ := ⟨_, rfl⟩
              have HYX : Hid (y = x) := Lib.hid (by rw [hy, ← hi])
              have HST := Lib.hid (And.intro hfa (And.intro hft hnw))
              clear cx hcs hxx hk hgd hix hij hic him hkk hk1 hk14 hbk hkd hfa hft hnw HR
              have hbx : BxN (wr.alloc (.cells #[.int .i64 x.k, .int .i64 i, .int .i64 x.l, .int .i64 x.w, .int .i64 x.s, .int .i64 x.a, .int .i64 x.b, .bool x.d, .int .i64 x.n] 74)) wr.heap.size y := by rw [hy]; exact alNew rfl
              have hb5 : Below wr.heap.size wr (wr.alloc (.cells #[.int .i64 x.k, .int .i64 i, .int .i64 x.l, .int .i64 x.w, .int .i64 x.s, .int .i64 x.a, .int .i64 x.b, .bool x.d, .int .i64 x.n] 74)) := by repeat (with_reducible first | exact Below.refl _ _ | assumption | (refine ext_next (by assumption) ?_) | apply ext_alloc | apply ext_past | apply ext_drew | apply ext_drewN)
              have HP5 := Lib.hid (And.intro hb5 hbx)
              clear hb5 hbx
              go_wp2_with fail
              refine (HLN.out _ HP5.out.1).mono ?_
              rintro e w5 ⟨rfl, hw5⟩
              rw [← hw5] at HP5
              clear hw5 x0 x1 x2 x3 x4 x5 x6 x7 x8
              obtain ⟨hb5, hbx⟩ := HP5.out
              obtain ⟨z0, z1, z2, z3, z4, z5, z6, z7, z8⟩ := hbx.cell
              have zl := hbx.lt
              have hix16 : i * 4 + j < n := by have := HF.out.hn; have := HIC.out; omega
              obtain ⟨pp, hpp⟩ : ∃ pp, pp = P (i * 4 + j) := ⟨_, rfl⟩
              have HFD := Lib.hid (fun (W : World) (hb : Below w5.heap.size w5 W) => show Calls Tryd.prog 75 #[.pointer (some ⟨p, 0, none⟩), .int .i64 i, .int .i64 j] W (fun e w' => e = .returned (.pointer (some ⟨pp, 0, none⟩)) ∧ w' = W) by
                have := ffind_ok (HST.out.1.ext (ext_trans hb5 hb)) HIC.out.1 HIC.out.2
                rw [← hpp] at this
                exact this)
              have hfit : (((addL G (xs.take k)) (i * 4 + j)).length : Int) + 1 ≤ c.de := by
                have h1 := HFT.out _ hix16
                have h2 := cntN_take xs (k + 1) (i * 4 + j)
                have h3 := take_next xs HLT.out.2
                rw [← HXX.out] at h3
                rw [h3, cntN_snoc, if_pos (by rw [← HIX.out.1, HIX.out.2])] at h2
                rw [addL_len]
                omega
              have HPT := Lib.hid (fun (W : World) (g : Nat) (hb : Below w5.heap.size w5 W) (hs : SlN W (some ⟨g, 0, none⟩) [y]) => show Calls Tryd.prog 76 #[.pointer (some ⟨pp, 0, none⟩), .slice (some ⟨g, 0, none⟩) 1 1] W (fun e w' => e = .returned (.int .i64 0) ∧ ∃ v', La w' pp c.de v' ((addL G (xs.take k)) (i * 4 + j) ++ [y]) ∧ Tch W w' pp (V' (i * 4 + j)).ownBlock ∧ (∀ g, v'.ownBlock = some g → (V' (i * 4 + j)).ownBlock = some g ∨ W.heap.size ≤ g) ∧ BxN w' wr.heap.size y) by
                have hF := HST.out.1.ext (ext_trans hb5 hb)
                have h16 := HF.out.n16
                have := put_ok (P (i * 4 + j)) c.de (V' (i * 4 + j)) ((addL G (xs.take k)) (i * 4 + j)) [y] (some ⟨g, 0, none⟩) 1 W (hF.la _ hix16) hs (by omega) (by omega) (by omega) (by simp; omega) (fun e => by cases e)
                rw [← hpp] at this
                refine this.mono ?_
                rintro e w' ⟨h1, v', h2, h3, h4⟩
                refine ⟨h1, v', h2, h3, h4, (h3.block _ (Nat.lt_of_lt_of_le hbx.lt hb.size) ?_ ?_).trans ((hb.block _ hbx.lt).trans hbx)⟩
                · have := (HST.out.1.la _ hix16).lt
                  omega
                · intro e9
                  have := ((HST.out.1.la _ hix16).own.lt _ e9.symm).2
                  omega)
              have HBX5 := Lib.hid (fun (W : World) (hb : Below w5.heap.size w5 W) => show BxN W wr.heap.size y from (hb.block _ hbx.lt).trans hbx)
              have HPP := Lib.hid hpp
              have HN16 := Lib.hid hix16
              have HFIT := Lib.hid hfit
              clear hb5 hbx hpp hfit hix16
              rw [hy] at z0 z1 z2 z3 z4 z5 z6 z7 z8
              dsimp only at z0 z1 z2 z3 z4 z5 z6 z7 z8
              go_wp2_with fail
              have QQ : (fun (w' : World) => w'.cell? ⟨wr.heap.size, 0, none⟩ = some (.int .i64 x.k) ∧ w'.cell? ⟨wr.heap.size, 1, none⟩ = some (.int .i64 i) ∧ w'.cell? ⟨wr.heap.size, 2, none⟩ = some (.int .i64 x.l) ∧ w'.cell? ⟨wr.heap.size, 3, none⟩ = some (.int .i64 x.w) ∧ w'.cell? ⟨wr.heap.size, 4, none⟩ = some (.int .i64 x.s) ∧ w'.cell? ⟨wr.heap.size, 5, none⟩ = some (.int .i64 x.a) ∧ w'.cell? ⟨wr.heap.size, 6, none⟩ = some (.int .i64 x.b) ∧ w'.cell? ⟨wr.heap.size, 7, none⟩ = some (.bool x.d) ∧ w'.cell? ⟨wr.heap.size, 8, none⟩ = some (.int .i64 x.n)) w5.drew := ⟨z0, z1, z2, z3, z4, z5, z6, z7, z8⟩
              have QB : ∀ W : World, BxN W wr.heap.size y → (fun (w' : World) => w'.cell? ⟨wr.heap.size, 0, none⟩ = some (.int .i64 x.k) ∧ w'.cell? ⟨wr.heap.size, 1, none⟩ = some (.int .i64 i) ∧ w'.cell? ⟨wr.heap.size, 2, none⟩ = some (.int .i64 x.l) ∧ w'.cell? ⟨wr.heap.size, 3, none⟩ = some (.int .i64 x.w) ∧ w'.cell? ⟨wr.heap.size, 4, none⟩ = some (.int .i64 x.s) ∧ w'.cell? ⟨wr.heap.size, 5, none⟩ = some (.int .i64 x.a) ∧ w'.cell? ⟨wr.heap.size, 6, none⟩ = some (.int .i64 x.b) ∧ w'.cell? ⟨wr.heap.size, 7, none⟩ = some (.bool x.d) ∧ w'.cell? ⟨wr.heap.size, 8, none⟩ = some (.int .i64 x.n)) W := fun W h9 => by
                rw [hy] at h9
                exact h9.cell
              have HSL := Lib.hid (fun (W : World) (t : TypeId) (g : Nat) (hg : g = W.heap.size) => show SlN (W.alloc (.cells #[.int .i64 x.k, .int .i64 i, .int .i64 x.l, .int .i64 x.w, .int .i64 x.s, .int .i64 x.a, .int .i64 x.b, .bool x.d, .int .i64 x.n] t)) (some ⟨g, 0, none⟩) [y] by rw [hy]; exact slN_one W ⟨x.k, (i : Int), x.l, x.w, x.s, x.a, x.b, x.d, x.n⟩ t g hg)
              clear z0 z1 z2 z3 z4 z5 z6 z7 z8
              go_region_held3 (fun w' => w'.cell? ⟨wr.heap.size, 0, none⟩ = some (.int .i64 x.k) ∧ w'.cell? ⟨wr.heap.size, 1, none⟩ = some (.int .i64 i) ∧ w'.cell? ⟨wr.heap.size, 2, none⟩ = some (.int .i64 x.l) ∧ w'.cell? ⟨wr.heap.size, 3, none⟩ = some (.int .i64 x.w) ∧ w'.cell? ⟨wr.heap.size, 4, none⟩ = some (.int .i64 x.s) ∧ w'.cell? ⟨wr.heap.size, 5, none⟩ = some (.int .i64 x.a) ∧ w'.cell? ⟨wr.heap.size, 6, none⟩ = some (.int .i64 x.b) ∧ w'.cell? ⟨wr.heap.size, 7, none⟩ = some (.bool x.d) ∧ w'.cell? ⟨wr.heap.size, 8, none⟩ = some (.int .i64 x.n))
                (first | exact QQ | exact QB _ (HBX5.out _ (by repeat (with_reducible first | exact Below.refl _ _ | assumption | (refine ext_next (by assumption) ?_) | apply ext_alloc | apply ext_past | apply ext_drew | apply ext_drewN))))
                (first
                  | (go_at_call 75; refine (HFD.out _ (by repeat (with_reducible first | exact Below.refl _ _ | assumption | (refine ext_next (by assumption) ?_) | apply ext_alloc | apply ext_past | apply ext_drew | apply ext_drewN))).mono ?_; rintro e w6 ⟨rfl, hw6⟩; subst hw6)
                  | (go_at_call 76; refine (HPT.out _ _ (by repeat (with_reducible first | exact Below.refl _ _ | assumption | (refine ext_next (by assumption) ?_) | apply ext_alloc | apply ext_past | apply ext_drew | apply ext_drewN)) (by first | exact HSL.out _ _ _ (by first | rfl | (simp; done)) | exact (HSL.out _ _ _ (by first | rfl | (simp; done))).ext (ext_drew (Below.refl _ _)) | exact (HSL.out _ _ _ (by first | rfl | (simp; done))).ext (ext_drew (ext_drew (Below.refl _ _))))).mono ?_; rintro e w7 ⟨rfl, hw7⟩; have QQ := QB _ hw7.choose_spec.2.2.2; have HW7 := Lib.hid hw7; clear hw7))
              all_goals
                have hsd : Sd w w7 B p c n P V G xs (k + 1) := by
                  obtain ⟨v', g1, g2, g3, _⟩ := HW7.out
                  rw [HPP.out] at g1 g2
                  exact Sd.next HST.out (ext_trans HP5.out.1 (by repeat (with_reducible first | exact Below.refl _ _ | assumption | (refine ext_next (by assumption) ?_) | apply ext_alloc | apply ext_past | apply ext_drew | apply ext_drewN))) HG.out.1 HN16.out HLT.out.2 (by rw [← HXX.out, ← HIX.out.1, HIX.out.2]) (by rw [HYX.out, HXX.out]) HFIT.out g1 g2 g3
                have HSD := Lib.hid hsd
                clear hsd
                go_wp2_with fail
                go_roundg (xs.length - (k + 1))
                case measure => have := HLT.out; omega
                case rel => exact ⟨k + 1, by go_num, by have := HLT.out; omega, HSD⟩
            · have ek : decide ((k : Int) < (xs.length : Int)) = false := by simp; omega
              have ek2 : decide (k < xs.length) = false := by simpa using hlt
              obtain rfl : k = xs.length := by omega
              clear hk hlt
              go_wp2_with fail
              go_ret
              refine ⟨by rw [HSR.out]; rfl, .inr ⟨HSR.out, ?_⟩⟩
              obtain ⟨V', h1, h2, h3⟩ := HR.out
              rw [List.take_length] at h1
              exact ⟨V', h1, h2, h3⟩
end

end Go.Proofs.YtkfnjpmigifomaaDoor
