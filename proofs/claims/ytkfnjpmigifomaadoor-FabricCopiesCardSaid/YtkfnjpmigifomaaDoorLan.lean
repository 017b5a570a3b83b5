/- What this text holds: notes and lanes in memory; a new lane, its length, its room, putting notes. No condition. -/
import Derived.Test.YtkfnjpmigifomaaDoorOwn2
import Derived.Laws.StructEq
import Derived.ArgAppend
import Derived.Deep.RegionHeld3
namespace Go.Proofs.YtkfnjpmigifomaaDoor
open Go.RowKit

/-- A note. -/
structure Nt where
  k : Int
  c : Int
  l : Int
  w : Int
  s : Int
  a : Int
  b : Int
  d : Bool
  n : Int
  deriving DecidableEq
def Nt.zero : Nt := ⟨0, 0, 0, 0, 0, 0, 0, false, 0⟩
/-- A note's cells. -/
def Nt.cells (x : Nt) : List Value := [.int .i64 x.k, .int .i64 x.c, .int .i64 x.l, .int .i64 x.w, .int .i64 x.s, .int .i64 x.a, .int .i64 x.b, .bool x.d, .int .i64 x.n]
def Nt.val (x : Nt) : Value := .agg #[.int .i64 x.k, .int .i64 x.c, .int .i64 x.l, .int .i64 x.w, .int .i64 x.s, .int .i64 x.a, .int .i64 x.b, .bool x.d, .int .i64 x.n]
def atN (xs : List Nt) (i : Nat) : Nt := xs[i]?.getD Nt.zero
def flatN (xs : List Nt) : List Value := xs.flatMap Nt.cells
theorem flatN_len (xs : List Nt) : (flatN xs).length = xs.length * 9 := by
  induction xs with
  | nil => rfl
  | cons x xs ih => simp [flatN, Nt.cells] at ih ⊢; omega
theorem flatN_at (xs : List Nt) : ∀ i j, i < xs.length → j < 9 → (flatN xs)[i * 9 + j]? = (atN xs i).cells[j]? := by
  induction xs with
  | nil => intro i j hi; simp at hi
  | cons x xs ih =>
    intro i j hi hj
    have e : flatN (x :: xs) = x.cells ++ flatN xs := by simp [flatN]
    rw [e]
    cases i with
    | zero =>
      rw [List.getElem?_append_left (by simp [Nt.cells]; omega)]
      simp [atN]
    | succ i =>
      rw [List.getElem?_append_right (by simp [Nt.cells]; omega)]
      have h9 : x.cells.length = 9 := rfl
      rw [h9, show (i + 1) * 9 + j - 9 = i * 9 + j by omega, ih i j (by simpa using hi) hj]
      simp [atN]
theorem flatN_one (xs : List Nt) : ∀ u ∈ flatN xs, u.oneCell' = true := by
  intro u hu
  simp only [flatN, List.mem_flatMap] at hu
  obtain ⟨x, _, hx⟩ := hu
  simp [Nt.cells] at hx
  rcases hx with rfl | rfl | rfl | rfl | rfl | rfl | rfl | rfl | rfl <;> rfl
theorem flatN_app (xs ys : List Nt) : flatN (xs ++ ys) = flatN xs ++ flatN ys := by simp [flatN]

theorem info_note : (Tryd.prog.info? 74).map (fun i => (i.zero, i.size, i.bytes)) = some (some Nt.zero.val, 9, 72) := by kernel_rfl

/-- A slice of notes that reads as a list. -/
def SlN (w : World) (A : Option Addr) (xs : List Nt) : Prop :=
  0 < xs.length → ∃ b off, A = some ⟨b, off, none⟩ ∧ b < w.heap.size ∧ ∀ i, i < xs.length → ∀ j u, (atN xs i).cells[j]? = some u → w.cell? ⟨b, off + i * 9 + j, none⟩ = some u
theorem SlN.of_block {w w' : World} {A : Option Addr} {xs : List Nt} (h : SlN w A xs) (hs : w.heap.size ≤ w'.heap.size) (hb : ∀ a, A = some a → w'.heap[a.block]? = w.heap[a.block]?) : SlN w' A xs := fun h0 => by
  obtain ⟨b, off, hA, hl, hc⟩ := h h0
  exact ⟨b, off, hA, Nat.lt_of_lt_of_le hl hs, fun i hi j u hu => (World.cell?_of_block (a := ⟨b, off + i * 9 + j, none⟩) (hb ⟨b, off, none⟩ hA)).trans (hc i hi j u hu)⟩
theorem SlN.ext {w w' : World} {A : Option Addr} {xs : List Nt} (hb : Below w.heap.size w w') (h : SlN w A xs) : SlN w' A xs := fun h0 => by
  obtain ⟨b, off, hA, hl, hc⟩ := h h0
  exact ⟨b, off, hA, Nat.lt_of_lt_of_le hl hb.size, fun i hi j u hu => (hb.cell (p := ⟨b, off + i * 9 + j, none⟩) hl).trans (hc i hi j u hu)⟩

/-- A lane in memory: its depth, and its notes in a row of its own (or none). -/
structure La (w : World) (p : Nat) (d : Int) (v : Value) (xs : List Nt) : Prop where
  lt : p < w.heap.size
  c0 : w.cell? ⟨p, 0, none⟩ = some (.int .i64 d)
  c1 : w.cell? ⟨p, 1, none⟩ = some v
  fz : ∀ i, w.frozen? ⟨p, i, none⟩ = false
  own : w.ownsRow 0 74 9 v xs.length (flatN xs)
  ne : v.ownBlock ≠ some p
theorem La.of_blocks {w w' : World} {p : Nat} {d : Int} {v : Value} {xs : List Nt} (h : La w p d v xs) (hs : w.heap.size ≤ w'.heap.size) (hp : w'.heap[p]? = w.heap[p]?) (hg : ∀ g, v.ownBlock = some g → w'.heap[g]? = w.heap[g]?) : La w' p d v xs := by
  refine ⟨Nat.lt_of_lt_of_le h.lt hs, (World.cell?_of_block (a := ⟨p, 0, none⟩) hp).trans h.c0, (World.cell?_of_block (a := ⟨p, 1, none⟩) hp).trans h.c1, fun i => (World.frozen?_of_block (a := ⟨p, i, none⟩) hp).trans (h.fz i), ⟨h.own.1, ?_⟩, h.ne⟩
  rcases h.own.2 with hn | ⟨g, cap, cur, rfl, hb, hgg, rest⟩
  · exact .inl hn
  · exact .inr ⟨g, cap, cur, rfl, hb, (hg g rfl).trans hgg, rest⟩
theorem La.ext {w w' : World} {p : Nat} {d : Int} {v : Value} {xs : List Nt} (h : La w p d v xs) (hb : Below w.heap.size w w') : La w' p d v xs :=
  h.of_blocks hb.size (hb.block p h.lt) (fun g hg => hb.block g (h.own.lt g hg).2)
/-- How a lane's notes stand. -/
theorem La.val {w : World} {p : Nat} {d : Int} {v : Value} {xs : List Nt} (h : La w p d v xs) : ∃ A cap, v = .slice A xs.length cap ∧ SlN w A xs ∧ xs.length ≤ cap := by
  rcases h.own.2 with ⟨rfl, h0⟩ | ⟨g, cap, cur, rfl, hb, hg, hc1, hc2, hc3, hc4⟩
  · have : xs = [] := List.eq_nil_of_length_eq_zero h0
    subst this
    exact ⟨none, 0, rfl, fun h => absurd h (by simp), Nat.le_refl _⟩
  · refine ⟨_, cap, rfl, fun _ => ⟨g, 0, rfl, (Array.getElem?_eq_some_iff.1 hg).1, fun i hi j u hu => ?_⟩, hc1⟩
    have hj : j < 9 := (List.getElem?_eq_some_iff.1 hu).1
    have h1 := flatN_at xs i j hi hj
    rw [hu, ← hc4, List.getElem?_take, if_pos (by omega)] at h1
    unfold World.cell?
    rw [hg, Nat.zero_add]
    simpa using h1

theorem lnew_ok (d : Int) (w : World) (h1 : 1 ≤ d) (h2 : d ≤ 16) : Calls Tryd.prog 72 #[.int .i64 d] w fun e w' =>
    e = .returned (.tuple #[.pointer (some ⟨w.heap.size, 0, none⟩), .int .i64 0]) ∧ La w' w.heap.size d (.slice none 0 0) [] ∧ Below w.heap.size w w' := by
  have e0 : decide (d < 1) = false := by simp; omega
  have e1 : decide (d > 16) = false := by simp; omega
  go_enter Tryd.func72, Tryd.ntmps72
  go_wp2
  go_ret2
  refine ⟨rfl, ⟨by simp, by simp [World.cell?_alloc_at], by simp [World.cell?_alloc_at], fun i => by simp [World.frozen?_alloc_at], World.ownsRow_nil _ _ _ _, fun e => by cases e⟩, (by repeat (with_reducible first | exact Below.refl _ _ | assumption | (refine ext_next (by assumption) ?_) | apply ext_alloc | apply ext_past | apply ext_drew | apply ext_drewN))⟩
theorem lnew_no (d : Int) (w : World) (h : d < 1 ∨ 16 < d) : Calls Tryd.prog 72 #[.int .i64 d] w fun e w' => e = .returned (.tuple #[.pointer none, .int .i64 10]) ∧ w' = w := by
  by_cases h1 : d < 1
  · go_enter Tryd.func72, Tryd.ntmps72
    go_wp2
    go_ret2
    exact ⟨rfl, rfl⟩
  · have h2 : 16 < d := by omega
    clear h
    go_enter Tryd.func72, Tryd.ntmps72
    go_wp2
    go_ret2
    exact ⟨rfl, rfl⟩

theorem lroom_any (p : Nat) (d : Int) (v : Value) (xs : List Nt) (w : World) (h : La w p d v xs) (hx : xs.length ≤ 100) (h1 : 0 ≤ d) (h2 : d ≤ 16) : Calls Tryd.prog 93 #[.pointer (some ⟨p, 0, none⟩)] w fun e w' => e = .returned (.int .i64 (d - xs.length)) ∧ Below w.heap.size w w' := by
  obtain ⟨A, cap, rfl, _⟩ := h.val
  have c0 := h.c0
  have c1 := h.c1
  have hl := h.lt
  go_enter Tryd.func93, Tryd.ntmps93
  go_wp2
  go_region
  go_wp2
  go_ret
  exact ⟨rfl, ext_drew (Below.refl _ _)⟩

/-- What a store into a lane leaves alone: all blocks but the lane's own and its row. -/
structure Tch (w w' : World) (p : Nat) (r : Option Nat) : Prop where
  os : w'.os = w.os
  tape : w'.tape = w.tape
  output : w'.output = w.output
  size : w.heap.size ≤ w'.heap.size
  block : ∀ k, k < w.heap.size → k ≠ p → some k ≠ r → w'.heap[k]? = w.heap[k]?
theorem Tch.below {W w w' : World} {p : Nat} {r : Option Nat} (h : Tch w w' p r) (hb : Below W.heap.size W w) (hp : W.heap.size ≤ p) (hr : ∀ g, r = some g → W.heap.size ≤ g) : Below W.heap.size W w' :=
  ⟨h.os.trans hb.os, h.tape.trans hb.tape, h.output.trans hb.output, Nat.le_trans hb.size h.size, fun k hk => (h.block k (Nat.lt_of_lt_of_le hk hb.size) (by omega) (fun e => by have := hr k e.symm; omega)).trans (hb.block k hk)⟩

theorem put_nil (A : Option Addr) (m c : Nat) (w : World) : Calls Tryd.prog 76 #[.pointer none, .slice A m c] w fun e w' => e = .returned (.int .i64 2) ∧ w' = w := by
  go_enter Tryd.func76, Tryd.ntmps76
  go_wp2
  go_ret
  exact ⟨rfl, rfl⟩

set_option maxRecDepth 100000 in
theorem put_full (p : Nat) (d : Int) (v : Value) (xs : List Nt) (A : Option Addr) (m c : Nat) (w : World) (h : La w p d v xs) (hx : xs.length ≤ 100) (h1 : 0 ≤ d) (h2 : d ≤ 16) (hf : d - xs.length < m) :
    Calls Tryd.prog 76 #[.pointer (some ⟨p, 0, none⟩), .slice A m c] w fun e w' => e = .returned (.int .i64 11) ∧ Below w.heap.size w w' := by
  have H := Lib.hid h
  clear h
  go_enter Tryd.func76, Tryd.ntmps76
  have e0 : decide ((m : Int) > d - xs.length) = true := by simp; omega
  go_wp2_with fail
  refine (lroom_any p d v xs _ H.out hx h1 h2).mono ?_
  rintro e w1 ⟨rfl, hb1⟩
  go_wp2_with fail
  go_ret
  exact ⟨rfl, hb1⟩

theorem SlN.cells {w : World} {a : Addr} {ys : List Nt} (h : SlN w (some a) ys) : ∀ j u, (flatN ys)[j]? = some u → w.cell? (a.add j) = some u := by
  intro j u hu
  have hj : j < ys.length * 9 := by rw [← flatN_len]; exact (List.getElem?_eq_some_iff.1 hu).1
  obtain ⟨b, off, hA, _, hc⟩ := h (by omega)
  obtain rfl := Option.some.inj hA
  have e : j = j / 9 * 9 + j % 9 := by omega
  have h9 : j % 9 < 9 := Nat.mod_lt _ (by decide)
  rw [e, flatN_at ys (j / 9) (j % 9) (by omega) h9] at hu
  rw [Addr.add_lit, e, ← Nat.add_assoc]
  exact hc (j / 9) (by omega) (j % 9) u hu

theorem owns_mono {w : World} {b b' : Nat} {e : TypeId} {size n : Nat} {v : Value} {xs : List Value} (h : w.ownsRow b e size v n xs) (hb : b' ≤ b) : w.ownsRow b' e size v n xs :=
  ⟨h.1, h.2.imp id fun ⟨g, cap, cur, h1, h2, h3⟩ => ⟨g, cap, cur, h1, Nat.le_trans hb h2, h3⟩⟩
theorem owns_from {w : World} {b : Nat} {e : TypeId} {size n : Nat} {v : Value} {xs : List Value} (h : w.ownsRow b e size v n xs) : ∀ g, v.ownBlock = some g → b ≤ g := fun g hg => (h.lt g hg).1
theorem owns_slice {w : World} {b : Nat} {e : TypeId} {size n : Nat} {v : Value} {xs : List Value} (h : w.ownsRow b e size v n xs) : ∃ A len cap, v = .slice A len cap := by
  rcases h.2 with ⟨rfl, _⟩ | ⟨g, cap, cur, rfl, _⟩
  · exact ⟨_, _, _, rfl⟩
  · exact ⟨_, _, _, rfl⟩

/-- What an append to a lane's notes and the store of the new slice make. -/
theorem la_put {w w1 w2 : World} {p : Nat} {d : Int} {v v' : Value} {xs ys : List Nt} (h : La w1 p d v xs) (hb : Below w.heap.size w w1) (_hp : p < w.heap.size) (_hv : ∀ g, v.ownBlock = some g → g < w.heap.size)
    (hg : w1.grownBy w2 v.ownBlock) (ho : w2.ownsRow 0 74 9 v' (xs.length + ys.length) (flatN xs ++ flatN ys)) (hf : ∀ g, v'.ownBlock = some g → v.ownBlock = some g ∨ w1.heap.size ≤ g) :
    La (w2.setCell ⟨p, 1, none⟩ v') p d v' (xs ++ ys) ∧ Tch w (w2.setCell ⟨p, 1, none⟩ v') p v.ownBlock ∧ (∀ g, v'.ownBlock = some g → v.ownBlock = some g ∨ w.heap.size ≤ g) := by
  have hpr : some p ≠ v.ownBlock := fun e => h.ne e.symm
  have hbl : w2.heap[p]? = w1.heap[p]? := hg.block p h.lt hpr
  have hc0 : w2.cell? ⟨p, 0, none⟩ = some (.int .i64 d) := (World.cell?_of_block (a := ⟨p, 0, none⟩) hbl).trans h.c0
  have hc1 : w2.cell? ⟨p, 1, none⟩ = some v := (World.cell?_of_block (a := ⟨p, 1, none⟩) hbl).trans h.c1
  have hs1 := hb.size
  have hs2 := hg.size
  refine ⟨⟨by simp; have := h.lt; omega, ?_, World.cell?_setCell_same _ _ _ hc1, fun i => ?_, ?_, fun e => (hf p e).elim (fun h' => h.ne h') (fun h' => by have := h.lt; omega)⟩, ⟨?_, ?_, ?_, by simp; omega, fun k hk h1 h2 => ?_⟩, fun g hg' => (hf g hg').imp id (by omega)⟩
  · rw [World.cell?_setCell_other _ _ _ _ (fun e => by have := congrArg Addr.off e; simp at this)]
    exact hc0
  · have := (World.frozen?_of_block (a := ⟨p, i, none⟩) hbl).trans (h.fz i)
    simpa using this
  · rw [List.length_append, flatN_app]
    refine ⟨ho.1, ?_⟩
    rcases ho.2 with hn | ⟨g, cap, cur, rfl, hb', hgg, rest⟩
    · exact .inl hn
    · refine .inr ⟨g, cap, cur, rfl, hb', ?_, rest⟩
      have hgp : g ≠ p := fun e => (hf g rfl).elim (fun h' => h.ne (by rw [h', e])) (fun h' => by have := h.lt; omega)
      rw [Below.heap_setCell _ _ _ _ (by simpa using hgp)]
      exact hgg
  · exact hg.os.trans hb.os
  · exact hg.tape.trans hb.tape
  · exact hg.output.trans hb.output
  · rw [Below.heap_setCell _ _ _ _ (by simpa using h1), hg.block k (by omega) h2]
    exact hb.block k hk

set_option maxRecDepth 100000 in
theorem put_ok (p : Nat) (d : Int) (v : Value) (xs ys : List Nt) (A : Option Addr) (c : Nat) (w : World) (h : La w p d v xs) (hA : SlN w A ys) (hx : xs.length ≤ 100) (h1 : 0 ≤ d) (h2 : d ≤ 16) (hf : xs.length + ys.length ≤ d) (hc0 : A = none → c = 0) :
    Calls Tryd.prog 76 #[.pointer (some ⟨p, 0, none⟩), .slice A ys.length c] w fun e w' => e = .returned (.int .i64 0) ∧ ∃ v', La w' p d v' (xs ++ ys) ∧ Tch w w' p v.ownBlock ∧ (∀ g, v'.ownBlock = some g → v.ownBlock = some g ∨ w.heap.size ≤ g) := by
  have H := Lib.hid h
  have HA := Lib.hid hA
  clear h hA
  go_enter Tryd.func76, Tryd.ntmps76
  have hp := H.out.lt
  have hvl : Hid (∀ g, v.ownBlock = some g → g < w.heap.size) := Lib.hid (fun g hg => (H.out.own.lt g hg).2)
  have e0 : decide ((ys.length : Int) > d - xs.length) = false := by simp; omega
  obtain ⟨i0, hi, hz0, hz1, hz2⟩ := info_parts info_note
  go_wp2_with fail
  refine (lroom_any p d v xs _ H.out hx h1 h2).mono ?_
  rintro e w1 ⟨rfl, hb1⟩
  have HL := Lib.hid (H.out.ext hb1)
  have HB := Lib.hid hb1
  have HA1 := Lib.hid (HA.out.ext hb1)
  have hp1 := HL.out.lt
  have c1 := HL.out.c1
  have hfz := HL.out.fz 1
  clear hb1 HA H
  have ho := HL.out.own
  cases A with
  | none =>
    have hy : ys = [] := by
      cases ys with
      | nil => rfl
      | cons y ys => obtain ⟨b, off, h, _⟩ := HA1.out (by simp); cases h
    subst hy
    obtain rfl := hc0 rfl
    have HO := Lib.hid ho
    rcases ho.2 with ⟨hv, hx0⟩ | ⟨g, cap, cur, hv, hbg, hgg, hnc, hcm, hcs', htk⟩
    · subst hv
      clear ho
      go_wp2_with fail
      go_ret
      exact ⟨rfl, _, la_put HL.out HB.out hp hvl.out ⟨rfl, rfl, rfl, Nat.le_refl _, fun _ _ _ => rfl⟩ (by simpa [flatN] using HO.out) (fun g hg => .inl hg)⟩
    · subst hv
      clear ho hgg htk
      go_wp2_with fail
      go_ret
      exact ⟨rfl, _, la_put HL.out HB.out hp hvl.out ⟨rfl, rfl, rfl, Nat.le_refl _, fun _ _ _ => rfl⟩ (by simpa [flatN] using HO.out) (fun g hg => .inl hg)⟩
  | some a =>
    have hcs := Lib.hid HA1.out.cells
    have hyl : ys.length ≤ 16 := by omega
    rcases ho.2 with ⟨hv, hx0⟩ | ⟨g, cap, cur, hv, hbg, hgg, hnc, hcm, hcs', htk⟩
    · subst hv
      have hx00 : xs = [] := List.eq_nil_of_length_eq_zero hx0
      subst hx00
      clear ho
      go_wp2_with (at_builtin; refine wpList_append_own _ rfl _ _ 69 rfl w1.heap.size 74 i0 Nt.zero.val 9 72 Tryd.underlying69 hi hz0 hz1 hz2 rfl (by decide) _ 0 [] rfl (World.ownsRow_nil _ _ _ _) a ys.length c (flatN ys) rfl (flatN_len ys) hcs.out (flatN_one ys) (by unfold maxLen; omega) (by omega) (Nat.le_refl _) ?_)
      intro v' w2 hown hgrow _
      have HO := Lib.hid hown
      obtain ⟨A2, l2, k2, rfl⟩ := owns_slice hown
      have hq : w2.heap[p]? = w1.heap[p]? := hgrow.block p hp1 (fun e => by cases e)
      have q1 := (World.cell?_of_block (a := ⟨p, 1, none⟩) hq).trans c1
      have qf := (World.frozen?_of_block (a := ⟨p, 1, none⟩) hq).trans hfz
      have HGr := Lib.hid hgrow
      clear hown hgrow c1 hfz
      go_wp2_with fail
      go_ret
      exact ⟨rfl, _, la_put HL.out HB.out hp hvl.out HGr.out (by have := owns_mono HO.out (Nat.zero_le _); simpa [flatN] using this) (fun g hg => .inr (owns_from HO.out g hg))⟩
    · subst hv
      by_cases hroom : xs.length + ys.length ≤ cap
      · go_wp2_with (at_builtin; refine wpList_append_fits _ rfl _ _ 69 rfl 0 74 i0 9 Tryd.underlying69 hi hz1 g xs.length cap (flatN xs) rfl ho a ys.length c (flatN ys) rfl (flatN_len ys) hcs.out (flatN_one ys) hroom ?_)
        intro w2 hown hgrow
        have HO := Lib.hid hown
        have hpg : p ≠ g := fun e => HL.out.ne (by rw [e]; rfl)
        have hq : w2.heap[p]? = w1.heap[p]? := hgrow.block p hp1 (fun e => hpg (Option.some.inj e))
        have q1 := (World.cell?_of_block (a := ⟨p, 1, none⟩) hq).trans c1
        have qf := (World.frozen?_of_block (a := ⟨p, 1, none⟩) hq).trans hfz
        have HGr := Lib.hid hgrow
        clear hown hgrow c1 hfz ho hgg htk
        go_wp2_with fail
        go_ret
        exact ⟨rfl, _, la_put HL.out HB.out hp hvl.out HGr.out HO.out (fun g hg => .inl hg)⟩
      · have hlo := ho.cells (g := g) rfl
        go_wp2_with (at_builtin; refine wpList_append_grows _ rfl _ _ 69 rfl 74 i0 Nt.zero.val 9 72 Tryd.underlying69 hi hz0 hz1 hz2 rfl (by decide) (some ⟨g, 0, none⟩) xs.length cap (flatN xs) rfl (fun h => by cases h) (flatN_len xs) (fun b hb => by cases hb; exact hlo) a ys.length c (flatN ys) rfl (flatN_len ys) hcs.out (flatN_one ys) (by omega) (by unfold maxLen; omega) (by omega) ?_)
        intro v' w2 hown hgrow
        have HO := Lib.hid hown
        obtain ⟨A2, l2, k2, rfl⟩ := owns_slice hown
        have hq : w2.heap[p]? = w1.heap[p]? := hgrow.block p hp1 (fun e => by cases e)
        have q1 := (World.cell?_of_block (a := ⟨p, 1, none⟩) hq).trans c1
        have qf := (World.frozen?_of_block (a := ⟨p, 1, none⟩) hq).trans hfz
        have HGr : Hid (w1.grownBy w2 (some g)) := Lib.hid ⟨hgrow.os, hgrow.tape, hgrow.output, hgrow.size, fun k hk _ => hgrow.block k hk (fun e => by cases e)⟩
        clear hown hgrow c1 hfz ho hgg htk hlo
        go_wp2_with fail
        go_ret
        exact ⟨rfl, _, la_put HL.out HB.out hp hvl.out HGr.out (owns_mono HO.out (Nat.zero_le _)) (fun g hg => .inr (owns_from HO.out g hg))⟩

end Go.Proofs.YtkfnjpmigifomaaDoor
