/- What this text holds: the walk of the law PlaceBack. Condition: the table of limits holds what its initialiser lays. -/
import Derived.Test.YtnbdaffbmpbfjaaDoorLinesOf
import Derived.Test.YtnbdaffbmpbfjaaDoorL01C
import Derived.Test.YtnbdaffbmpbfjaaDoorRst
import Derived.Test.YtnbdaffbmpbfjaaDoorRdm
import Derived.Deep.RegionWith
import Derived.Deep.RegionHeld3
namespace Go.Proofs.YtnbdaffbmpbfjaaDoor
open Go.RowKit Go.Shelf
attribute [local go_sem] Oper.semAt_some

/-- How many of the first s lines are in bank i, of n banks. -/
def bk (s n i : Nat) : Nat := if i < n then (s + n - 1 - i) / n else 0
theorem bk_zero (n i : Nat) (_h1 : 1 ≤ n) : bk 0 n i = 0 := by
  unfold bk
  split
  · exact Nat.div_eq_of_lt (by omega)
  · rfl
theorem bk_step (s n i : Nat) (h1 : 1 ≤ n) (h4 : n ≤ 4) : bk (s + 1) n i = if s % n = i then bk s n i + 1 else bk s n i := by
  have : n = 1 ∨ n = 2 ∨ n = 3 ∨ n = 4 := by omega
  unfold bk
  rcases this with rfl | rfl | rfl | rfl <;> split <;> split <;> omega
theorem bk_even (s n i : Nat) (h1 : 1 ≤ n) (h4 : n ≤ 4) (hi : i < n) : bk s n 0 ≤ bk s n i + 1 ∧ bk s n i ≤ bk s n 0 := by
  have : n = 1 ∨ n = 2 ∨ n = 3 ∨ n = 4 := by omega
  unfold bk
  rcases this with rfl | rfl | rfl | rfl <;> split <;> omega
theorem bk_le (s n i : Nat) (h1 : 1 ≤ n) (h4 : n ≤ 4) (hs : s ≤ 32) : bk s n i ≤ 32 := by
  have : n = 1 ∨ n = 2 ∨ n = 3 ∨ n = 4 := by omega
  unfold bk
  rcases this with rfl | rfl | rfl | rfl <;> split <;> omega

/-- Two blocks alone were turned. -/
structure Bt (a w : World) (b s : Nat) : Prop where
  os : w.os = a.os
  tape : w.tape = a.tape
  output : w.output = a.output
  size : a.heap.size ≤ w.heap.size
  block : ∀ k, k < a.heap.size → k ≠ b → k ≠ s → w.heap[k]? = a.heap[k]?
theorem Bt.refl (a : World) (b s : Nat) : Bt a a b s := ⟨rfl, rfl, rfl, Nat.le_refl _, fun _ _ _ _ => rfl⟩
theorem Bt.ext {a w v : World} {b s : Nat} (h : Bt a w b s) (k : Below w.heap.size w v) : Bt a v b s :=
  ⟨k.os.trans h.os, k.tape.trans h.tape, k.output.trans h.output, Nat.le_trans h.size k.size, fun j h1 h2 h3 => (k.block j (Nat.lt_of_lt_of_le h1 h.size)).trans (h.block j h1 h2 h3)⟩
theorem Bt.set {a w : World} {b s : Nat} (h : Bt a w b s) (k o : Nat) (hk : k = b ∨ k = s) (v : Value) : Bt a (w.setCell ⟨k, o, none⟩ v) b s :=
  ⟨h.os, h.tape, h.output, by simpa using h.size, fun j h1 h2 h3 => (Below.heap_setCell w _ _ j (fun e => by rcases hk with e2 | e2 <;> simp_all)).trans (h.block j h1 h2 h3)⟩
theorem Bt.below {H : World} {a w : World} {b s : Nat} (h : Bt a w b s) (k : Below H.heap.size H a) (hb : H.heap.size ≤ b) (hs : H.heap.size ≤ s) : Below H.heap.size H w :=
  ⟨h.os.trans k.os, h.tape.trans k.tape, h.output.trans k.output, Nat.le_trans k.size h.size, fun j hj => (h.block j (Nat.lt_of_lt_of_le hj k.size) (by omega) (by omega)).trans (k.block j hj)⟩
theorem ownFrom_bt {β : Type} {a : World} {b s B : Nat} (hB : a.heap.size ≤ B) : OwnFrom B (fun (_ : β) W => Bt a W b s) := fun _ A C row hs hg hr =>
  ⟨hg.os.trans hs.os, hg.tape.trans hs.tape, hg.output.trans hs.output, Nat.le_trans hs.size hg.size, fun k h1 h2 h3 => (hg.block k (Nat.lt_of_lt_of_le h1 hs.size) (fun e => by have := (hr k e.symm).1; omega)).trans (hs.block k h1 h2 h3)⟩

/-- The banks' cells. -/
def bkC (s n : Nat) : Array Value := #[.int .i64 (bk s n 0), .int .i64 (bk s n 1), .int .i64 (bk s n 2), .int .i64 (bk s n 3)]
theorem bkC_at {W : World} {b : Nat} {s n : Nat} {t : TypeId} (h : W.heap[b]? = some (.cells (bkC s n) t (0, 0))) {i : Nat} (hi : i < 4) : W.cell? ⟨b, i, none⟩ = some (.int .i64 (bk s n i)) ∧ W.frozen? ⟨b, i, none⟩ = false := by
  have : i = 0 ∨ i = 1 ∨ i = 2 ∨ i = 3 := by omega
  rcases this with rfl | rfl | rfl | rfl <;> simp [World.cell?, World.frozen?, h, bkC]
theorem bkC_set {W : World} {b : Nat} {s n : Nat} {t : TypeId} (h : W.heap[b]? = some (.cells (bkC s n) t (0, 0))) (h1 : 1 ≤ n) (h4 : n ≤ 4) : (W.setCell ⟨b, s % n, none⟩ (.int .i64 (bk s n (s % n) + 1))).heap[b]? = some (.cells (bkC (s + 1) n) t (0, 0)) := by
  have hi : s % n < 4 := Nat.lt_of_lt_of_le (Nat.mod_lt _ h1) h4
  have hb := fun i => bk_step s n i h1 h4
  generalize s % n = i at hi hb ⊢
  have hw := Joins.block_setCell (i := i) h (.int .i64 ((bk s n i : Nat) + 1 : Int))
  rw [hw]
  unfold bkC
  rw [hb 0, hb 1, hb 2, hb 3]
  have : i = 0 ∨ i = 1 ∨ i = 2 ∨ i = 3 := by omega
  rcases this with rfl | rfl | rfl | rfl <;> simp

/-- The law's own boxes, and the marks of its ranges. -/
structure Sb (w W : World) (c : Cfg) (n bb bs s : Nat) (ds : List Nat) : Prop where
  be : Below w.heap.size w W
  cf : W.heap[w.heap.size]? = some (.cells #[.int .i64 c.co, .int .i64 c.gr, .int .i64 c.se, .int .i64 c.wa, .int .i64 c.de, .int .i64 c.en, .int .i64 c.ba] 23 (0, 0))
  re : W.heap[w.heap.size + 1]? = some (.cells #[.bool false] 4 (0, 0))
  bk : W.heap[bb]? = some (.cells (bkC s n) 43 (0, 0))
  se : W.heap[bs]? = some (.cells #[.int .i64 s] 3 (0, 0))
  ds : ds.Nodup ∧ ∀ D ∈ ds, w.heap.size ≤ D ∧ W.heap[D]? = some (.deferred (some []))
  lt : w.heap.size + 1 < bb ∧ bb < bs
theorem Sb.ext {w W V : World} {c : Cfg} {n bb bs s : Nat} {ds : List Nat} (h : Sb w W c n bb bs s ds) (hb : Below W.heap.size W V) : Sb w V c n bb bs s ds :=
  ⟨ext_trans h.be hb, (hb.block _ (lt_of h.cf)).trans h.cf, (hb.block _ (lt_of h.re)).trans h.re, (hb.block _ (lt_of h.bk)).trans h.bk, (hb.block _ (lt_of h.se)).trans h.se, ⟨h.ds.1, fun D hD => ⟨(h.ds.2 D hD).1, (hb.block D (Array.getElem?_eq_some_iff.1 (h.ds.2 D hD).2).1).trans (h.ds.2 D hD).2⟩⟩, h.lt⟩
theorem Sb.turn {w W V : World} {c : Cfg} {n bb bs s s' : Nat} {ds : List Nat} (h : Sb w W c n bb bs s ds) (hb : Bt W V bb bs) (h1 : V.heap[bb]? = some (.cells (bkC s' n) 43 (0, 0))) (h2 : V.heap[bs]? = some (.cells #[.int .i64 s'] 3 (0, 0))) : Sb w V c n bb bs s' ds := by
  obtain ⟨l1, l2⟩ := h.lt
  refine ⟨hb.below h.be (by omega) (by omega), (hb.block _ (lt_of h.cf) (by omega) (by omega)).trans h.cf, (hb.block _ (lt_of h.re) (by omega) (by omega)).trans h.re, h1, h2, ⟨h.ds.1, fun D hD => ⟨(h.ds.2 D hD).1, ?_⟩⟩, h.lt⟩
  have hD2 := (h.ds.2 D hD).2
  refine (hb.block D (Array.getElem?_eq_some_iff.1 hD2).1 (fun e => ?_) (fun e => ?_)).trans hD2
  · rw [e, h.bk] at hD2; simp at hD2
  · rw [e, h.se] at hD2; simp at hD2

set_option maxRecDepth 100000 in
set_option maxHeartbeats 1000000 in
theorem placeBack_no (c : Cfg) (w : World) (hL : Lims w) (hc : ¬ c.ok) : Calls Tryd.prog 6 #[.agg #[.int .i64 c.co, .int .i64 c.gr, .int .i64 c.se, .int .i64 c.wa, .int .i64 c.de, .int .i64 c.en, .int .i64 c.ba]] w fun e w' => e = .returned (.bool true) ∧ Below w.heap.size w w' := by
  have hm := Lib.hid (mayB_no hc)
  have HL := Lib.hid hL
  clear hc hL
  go_enter Tryd.func6, Tryd.ntmps6
  go_wp2_with fail
  refine (may_any c _).mono ?_
  rintro e w1 ⟨rfl, hb⟩
  rw [hm.out]
  have HB := Lib.hid (ext_trans (ext_alloc _ (ext_alloc _ (Below.refl _ w))) hb)
  have hc1 := (hb.block (w.heap.size + 1) (by simp)).trans (alNew (by simp))
  have HC := Lib.hid hc1
  clear hb hc1
  go_wp2_with fail
  refine (awake01 _ (HL.out.ext HB.out)).mono ?_
  rintro e w2 ⟨rfl, hb⟩
  have hc2 := (hb.block _ (lt_of HC.out)).trans HC.out
  have k0 := cell_of hc2
  have f0 := free_of hc2
  have hl := lt_of hc2
  have HB2 := Lib.hid (ext_trans HB.out hb)
  clear hb hc2
  go_wp2_with fail
  have kk := World.cell?_setCell_same w2 ⟨w.heap.size + 1, 0, none⟩ (.bool true) k0
  (try simp only [Exit.inBlock, Exit.then]); refine bodyPost_ret (by simp [results, Tryd.results6, go_sem, kk]; try rfl) rfl ?_
  exact ⟨rfl, HB2.out.setCell (p := ⟨w.heap.size + 1, 0, none⟩) (by simp) _⟩

theorem word_at (c : Cfg) (w : World) (hL : Lims w) (k l : Nat) (a : Int) (hk : (k : Int) = 2 * l + a) (hl : (l : Int) < lin c) (ha : 0 ≤ a ∧ a < 2) : Calls Tryd.prog 19 #[.agg #[.int .i64 c.co, .int .i64 c.gr, .int .i64 c.se, .int .i64 c.wa, .int .i64 c.de, .int .i64 c.en, .int .i64 c.ba], .int .i64 l, .int .i64 a] w fun e w' => e = .returned (.tuple #[.int .i64 k, .int .i64 0]) ∧ Below w.heap.size w w' := by
  refine (word_ok c l a w hL (by omega) hl (by omega) (by omega)).mono ?_
  rintro e w1 ⟨rfl, hb⟩
  exact ⟨by rw [show (l : Int) * 2 + a = (k : Int) by omega], hb⟩
theorem line_at (c : Cfg) (w : World) (hL : Lims w) (k l : Nat) (a : Int) (hk : (k : Int) = 2 * l + a) (hl : (l : Int) < lin c) (ha : 0 ≤ a ∧ a < 2) : Calls Tryd.prog 18 #[.agg #[.int .i64 c.co, .int .i64 c.gr, .int .i64 c.se, .int .i64 c.wa, .int .i64 c.de, .int .i64 c.en, .int .i64 c.ba], .int .i64 k] w fun e w' => e = .returned (.tuple #[.int .i64 l, .int .i64 a, .int .i64 0]) ∧ Below w.heap.size w w' := by
  refine (line_ok c k w hL (by omega) (by omega)).mono ?_
  rintro e w1 ⟨rfl, hb⟩
  exact ⟨by rw [show (k : Int) / 2 = l by omega, show (k : Int) % 2 = a by omega], hb⟩
theorem bank_at (c : Cfg) (w : World) (hL : Lims w) (l n : Nat) (hl : (l : Int) < lin c) (hn : (n : Int) = c.ba) (h1 : 1 ≤ n) : Calls Tryd.prog 21 #[.agg #[.int .i64 c.co, .int .i64 c.gr, .int .i64 c.se, .int .i64 c.wa, .int .i64 c.de, .int .i64 c.en, .int .i64 c.ba], .int .i64 l] w fun e w' => e = .returned (.tuple #[.int .i64 ((l % n : Nat) : Int), .int .i64 0]) ∧ Below w.heap.size w w' := by
  refine (bank_ok c l w hL (by omega) hl (by omega)).mono ?_
  rintro e w1 ⟨rfl, hb⟩
  exact ⟨by rw [← hn, Int.natCast_emod], hb⟩

set_option maxRecDepth 100000 in
set_option maxHeartbeats 4000000 in
theorem placeBack_yes (c : Cfg) (w : World) (hL : Lims w) (hc : c.ok) : Calls Tryd.prog 6 #[.agg #[.int .i64 c.co, .int .i64 c.gr, .int .i64 c.se, .int .i64 c.wa, .int .i64 c.de, .int .i64 c.en, .int .i64 c.ba]] w fun e w' => e = .returned (.bool true) ∧ Below w.heap.size w w' := by
  have hm := Lib.hid (mayB_yes hc)
  have HC := Lib.hid hc
  have HL := Lib.hid hL
  obtain ⟨n, hn⟩ : ∃ n : Nat, (n : Int) = c.ba := ⟨c.ba.toNat, by obtain ⟨_, _, _, _, _, _, h, h'⟩ := hc; omega⟩
  obtain ⟨ng, hng⟩ : ∃ n : Nat, (n : Int) = c.gr := ⟨c.gr.toNat, by obtain ⟨_, ⟨h, h'⟩, _⟩ := hc; omega⟩
  have HN := Lib.hid (show (n : Int) = c.ba ∧ (ng : Int) = c.gr ∧ 1 ≤ n ∧ n ≤ 4 ∧ 1 ≤ ng ∧ ng ≤ 16 ∧ lin c = 2 * c.gr from by have hl := lin_ok hc; obtain ⟨_, ⟨h2, h3⟩, _, _, _, _, h, h'⟩ := hc; omega)
  clear hc hL hn hng
  refine (callsIn_wide (n := 6)).1 ?_
  have hro : Fence.wide.round = none := rfl
  refine callsIn_of_wp_marks Tryd.func6 rfl trivial ?_ hro
  simp only [Tryd.ntmps6, List.size_toArray, List.length_cons, List.length_nil, Nat.reduceAdd, Nat.reduceSub, Array.replicate_succ, Array.replicate_zero, List.push_toArray, List.append_toArray, List.nil_append, List.cons_append]
  refine wpIn_wide.2 ?_
  go_wp2_with fail
  refine (may_any c _).mono ?_
  rintro e w1 ⟨rfl, hb⟩
  rw [hm.out]
  have HB := Lib.hid (ext_trans (ext_alloc _ (ext_alloc _ (Below.refl _ w))) hb)
  have h0 := (hb.block w.heap.size (by simp; omega)).trans (alOld (alNew rfl))
  have h1 := (hb.block (w.heap.size + 1) (by simp)).trans (alNew (by simp))
  have H0 := Lib.hid h0
  have H1 := Lib.hid h1
  obtain ⟨k0, k1, k2, k3, k4, k5, k6⟩ := cfg_cells h0
  have xl := lt_of h0
  have yl := lt_of h1
  clear hb h0 h1
  go_wp2_with fail
  have HW0 := Lib.hid (show w1.heap[w.heap.size]? = _ ∧ w1.heap[w.heap.size + 1]? = _ ∧ Below w.heap.size w w1 from ⟨H0.out, H1.out, HB.out⟩)
  clear k0 k1 k2 k3 k4 k5 k6 xl yl H0 H1 HB
  go_loopg [3] (4 * ng) (fun g s3 wr => ∃ k : Nat, s3 = .int .i64 k ∧ k + g = 4 * ng ∧ Hid (Below w1.heap.size w1 wr))
  case atStart => exact ⟨0, rfl, by omega, Lib.hid (Below.refl _ _)⟩
  case round =>
    obtain ⟨k, rfl, hk, HR⟩ := hrel
    have h0 := (HR.out.block _ (lt_of HW0.out.1)).trans HW0.out.1
    have h1 := (HR.out.block _ (lt_of HW0.out.2.1)).trans HW0.out.2.1
    have HBR := Lib.hid (ext_trans HW0.out.2.2 HR.out)
    have HLR := Lib.hid (fun (V : World) (hb : Below wr.heap.size wr V) => HL.out.ext (ext_trans HBR.out hb))
    have H0 := Lib.hid h0
    have H1 := Lib.hid h1
    obtain ⟨k0, k1, k2, k3, k4, k5, k6⟩ := cfg_cells h0
    have xl := lt_of h0
    have yl := lt_of h1
    clear h0 h1
    by_cases hlt : k < 4 * ng
    · obtain ⟨l, a, hla, ha2⟩ : ∃ l a : Nat, k = 2 * l + a ∧ a < 2 := ⟨k / 2, k % 2, by omega, by omega⟩
      have hll : (l : Int) < lin c := by have := HN.out; omega
      have HLI := Lib.hid (fun (V : World) (hb : Below wr.heap.size wr V) => line_at c V (HLR.out V hb) k l a (by omega) hll (by omega))
      have HWO := Lib.hid (fun (V : World) (hb : Below wr.heap.size wr V) => word_at c V (HLR.out V hb) k l a (by omega) hll (by omega))
      have ek : decide ((k : Int) < lin c * 2) = true := by have := HN.out; simp; omega
      have hk64 : (k : Int) ≤ 64 := by have := HN.out; omega
      have HLT := Lib.hid (And.intro hk hlt)
      clear hk hlt hla ha2 hll
      go_wp2_with fail
      refine (words_any c _ (HLR.out _ (Below.refl _ _))).mono ?_
      rintro e w2 ⟨rfl, hb⟩
      have HB2 := Lib.hid hb
      obtain ⟨hc2, hf2⟩ := bcell hb
      have xl2 := Nat.lt_of_lt_of_le xl hb.size
      have yl2 := Nat.lt_of_lt_of_le yl hb.size
      clear hb
      go_wp2_with fail
      refine (HLI.out _ HB2.out).mono ?_
      rintro e w3 ⟨rfl, hb⟩
      have HB3 := Lib.hid (ext_trans HB2.out hb)
      obtain ⟨hc3, hf3⟩ := bcell hb
      have xl3 := Nat.lt_of_lt_of_le xl2 hb.size
      have yl3 := Nat.lt_of_lt_of_le yl2 hb.size
      clear hb
      go_wp2_with fail
      refine (HWO.out _ HB3.out).mono ?_
      rintro e w4 ⟨rfl, hb⟩
      have HB4 := Lib.hid (ext_trans HB3.out hb)
      clear hb
      go_wp2_with fail
      go_roundg (4 * ng - (k + 1))
      case measure => have := HLT.out; omega
      case rel => exact ⟨k + 1, by go_num, by have := HLT.out; omega, Lib.hid (ext_trans HR.out HB4.out)⟩
    · have ek : decide ((k : Int) < lin c * 2) = false := by have := HN.out; simp; omega
      clear hk hlt
      go_wp2_with fail
      refine (words_any c _ (HLR.out _ (Below.refl _ _))).mono ?_
      rintro e w2 ⟨rfl, hb⟩
      have HS2 := Lib.hid (show Below w.heap.size w w2 ∧ w2.heap[w.heap.size]? = _ ∧ w2.heap[w.heap.size + 1]? = _ from ⟨ext_trans HBR.out hb, (hb.block _ xl).trans H0.out, (hb.block _ yl).trans H1.out⟩)
      clear hb HBR HLR H0 H1 k0 k1 k2 k3 k4 k5 k6 xl yl HR HW0
      obtain ⟨k0, k1, k2, k3, k4, k5, k6⟩ := cfg_cells HS2.out.2.1
      have xl := lt_of HS2.out.2.1
      have yl := lt_of HS2.out.2.2
      go_wp2_with fail
      have HS3 := Lib.hid (show Sb w ((w2.alloc (.cells #[.int .i64 0, .int .i64 0, .int .i64 0, .int .i64 0] 43)).alloc (.cells #[.int .i64 0] 3)) c n w2.heap.size (w2.heap.size + 1) (2 * 0) [] from
        ⟨ext_alloc _ (ext_alloc _ HS2.out.1), alOld (alOld HS2.out.2.1), alOld (alOld HS2.out.2.2), by
          have := HN.out
          have e0 : bkC (2 * 0) n = #[.int .i64 0, .int .i64 0, .int .i64 0, .int .i64 0] := by simp [bkC, bk_zero n _ this.2.2.1]
          rw [e0]
          exact alOld (alNew rfl), alNew (by simp), ⟨List.nodup_nil, fun D hD => by simp at hD⟩, ⟨yl, by simp⟩⟩)
      refine wp_loop_marks (ds0 := []) [11, 12, 58, 59, 60, 61, 62, 63, 64, 65, 66, 67, 68, 69]
        (fun g vs ds wr => ∃ (k : Nat) (u12 u58 u59 u60 u61 u62 u63 u64 u65 u66 u67 u68 u69 : Value), vs = [.int .i64 k, u12, u58, u59, u60, u61, u62, u63, u64, u65, u66, u67, u68, u69] ∧ k + g = ng ∧ Hid (Sb w wr c n w2.heap.size (w2.heap.size + 1) (2 * k) ds))
        ng [.int .i64 0, undef, undef, undef, undef, undef, undef, undef, undef, undef, undef, undef, undef, undef] (by simp only [setAll, List.zip_cons_cons, List.zip_nil_right, List.foldl_cons, List.foldl_nil, List.setIfInBounds_toArray, List.set_cons_succ, List.set_cons_zero]) ⟨0, _, _, _, _, _, _, _, _, _, _, _, _, _, rfl, by omega, HS3⟩ ?_
      rintro g vs ds wg ⟨k, u12, u58, u59, u60, u61, u62, u63, u64, u65, u66, u67, u68, u69, rfl, hk, HS⟩ K hK
      simp only [setAll, List.zip_cons_cons, List.zip_nil_right, List.foldl_cons, List.foldl_nil, List.setIfInBounds_toArray, List.set_cons_succ, List.set_cons_zero]
      clear HS2 HS3 k0 k1 k2 k3 k4 k5 k6 xl yl
      obtain ⟨k0, k1, k2, k3, k4, k5, k6⟩ := cfg_cells HS.out.cf
      have xl := lt_of HS.out.cf
      have yl := lt_of HS.out.re
      by_cases hlt : k < ng
      · have ek : decide ((k : Int) < c.gr) = true := by have := HN.out; simp; omega
        have hk16 : (k : Int) ≤ 16 := by have := HN.out; omega
        have HLT := Lib.hid (And.intro hk hlt)
        clear hk hlt
        go_wp2_with fail
        refine (linesof_any c (k : Int) wg).mono ?_
        rintro e w3 ⟨rfl, rfl⟩
        have hq := seq_nil
        go_wp2_with fail
        refine (wpIn_wide (n := 6)).1 ?_
        obtain ⟨W3, hW3⟩ : ∃ W, W = (wg.alloc (.cells #[.int .i64 c.co, .int .i64 c.gr, .int .i64 c.se, .int .i64 c.wa, .int .i64 c.de, .int .i64 c.en, .int .i64 c.ba] 23)).alloc (.cells #[.int .i64 k] 3) := ⟨_, rfl⟩
        have hz3 : W3.heap.size = wg.heap.size + 2 := by rw [hW3]; simp
        have hB3 : Below wg.heap.size wg W3 := by rw [hW3]; exact ext_alloc _ (ext_alloc _ (Below.refl _ _))
        have h30 : W3.heap[wg.heap.size]? = some (.cells #[.int .i64 c.co, .int .i64 c.gr, .int .i64 c.se, .int .i64 c.wa, .int .i64 c.de, .int .i64 c.en, .int .i64 c.ba] 23 (0, 0)) := by rw [hW3]; exact alOld (alNew rfl)
        have h31 : W3.heap[wg.heap.size + 1]? = some (.cells #[.int .i64 k] 3 (0, 0)) := by rw [hW3]; exact alNew (by simp)
        rw [← hW3]
        have HS3 := Lib.hid (HS.out.ext hB3)
        have HZ3 := Lib.hid (And.intro hz3 hB3)
        clear hW3 hq k0 k1 k2 k3 k4 k5 k6 xl yl
        refine wpIn_rangeFunc_var [(13, 0)] hro (by omega) (gf := 42) (lb := #[.pointer (some ⟨wg.heap.size, 0, none⟩), .pointer (some ⟨wg.heap.size + 1, 0, none⟩)]) rfl trivial (enters_of Tryd.func42 (by kernel_rfl) rfl)
          (linesOf_stops (6 - 1) (by omega) c k wg.heap.size W3 (HL.out.ext HS3.out.be) (by omega) h30 h31) (fun h k => h.trans k) (fun _ => ⟨rfl, rfl⟩) (fun W l o o' hl ho hc hw => ?kp) (Below.refl _ _) (fun _ => rfl)
          (fun pre W => (W.heap[w2.heap.size]? = some (.cells (bkC (2 * k + pre.length) n) 43 (0, 0)) ∧ W.heap[w2.heap.size + 1]? = some (.cells #[.int .i64 (2 * k + pre.length : Nat)] 3 (0, 0)) ∧ good01 pre) ∧ Bt W3 W w2.heap.size (w2.heap.size + 1))
          (fun cc pre _ => cc = .ret ∧ ¬ good01 pre)
          (OwnFrom.and (Own.from (fun s A B row hs hg hr => ⟨blk_held hs.1 hg hr, blk_held hs.2.1 hg hr, hs.2.2⟩) _) (ownFrom_bt (Nat.le_refl _)))
          (fun _ _ _ _ _ hs _ _ => hs)
          ⟨⟨HS3.out.bk, HS3.out.se, fun i h => absurd h (by simp)⟩, Bt.refl _ _ _⟩ ?assign ?body ?done ?stop
        case kp => exact ⟨World.putObj_heap_other (by omega), World.putObj_heap_other (by omega)⟩
        case assign =>
          intro l x W K hK
          unfold varFrame at hK
          simp at hK
          gi_wp2
          exact hK
        case body =>
          rintro l pre x W hl hr ⟨⟨hbk, hse, hg⟩, hB⟩ hlen
          have hx1 := x.2.2
          obtain ⟨s, hs⟩ : ∃ s, s = 2 * k + pre.length := ⟨_, rfl⟩
          rw [← hs] at hbk hse
          have HSW := Lib.hid (HS3.out.turn hB hbk hse)
          have hn := HN.out
          have hks := HLT.out
          have hsl : s ≤ 31 ∧ ((s : Int) < lin c) := by omega
          have HLW := Lib.hid (fun (V : World) (hb : Below W.heap.size W V) => HL.out.ext (ext_trans HSW.out.be hb))
          have HSN := Lib.hid (And.intro hs hsl)
          have HG := Lib.hid hg
          have HBT := Lib.hid hB
          have HBK := Lib.hid hbk
          have HSE := Lib.hid hse
          have hxl : 0 ≤ x.1 ∧ x.1 < lin c := by rcases hx1 with h | h <;> omega
          have HXX := Lib.hid (show x.1 = 2 * (k : Int) ∨ x.1 = 2 * (k : Int) + 1 by rcases hx1 with h | h <;> omega)
          have hKK : ∀ V : World, Bt W V w2.heap.size (w2.heap.size + 1) → KeepB wg.heap.size W V := fun V hV => ⟨hV.block _ (by have := hB.size; omega) (by have := lt_of HS.out.bk; omega) (by have := lt_of HS.out.se; omega), hV.block _ (by have := hB.size; omega) (by have := lt_of HS.out.bk; omega) (by have := lt_of HS.out.se; omega)⟩
          have hKF : ∀ V : World, Bt W V w2.heap.size (w2.heap.size + 1) → KeepsFrom W3.heap.size W V := fun V hV => ⟨hV.size, fun j o h1 h2 h3 => by
            refine (hV.block j (Array.getElem?_eq_some_iff.1 h2).1 (fun e => ?_) (fun e => ?_)).trans h2
            · rw [e, hbk] at h2; cases h2; simp [Obj.isCells] at h3
            · rw [e, hse] at h2; cases h2; simp [Obj.isCells] at h3⟩
          have HKK := Lib.hid hKK
          have HKF := Lib.hid hKF
          obtain ⟨k0, k1, k2, k3, k4, k5, k6⟩ := cfg_cells HSW.out.cf
          have kr := one_cell HSW.out.re
          have hs31 : (s : Int) ≤ 31 := by omega
          have kse := one_cell hse
          have xl := lt_of HSW.out.cf
          have yl := lt_of HSW.out.re
          have sl := lt_of hse
          have bl := lt_of hbk
          have fs := one_frozen hse
          have fb := fun i (hi : i < 4) => (bkC_at hbk hi).2
          have fr := one_frozen HSW.out.re
          unfold varFrame
          by_cases hxs : x.1 = s
          · have hbn : s % n < 4 := Nat.lt_of_lt_of_le (Nat.mod_lt _ hn.2.2.1) hn.2.2.2.1
            have hbi : (s % n : Nat) < (n : Int) := by have := Nat.mod_lt s hn.2.2.1; omega
            have kb := (bkC_at hbk hbn).1
            have kbf := fb (s % n) hbn
            have hble := bk_le s n (s % n) hn.2.2.1 hn.2.2.2.1 (by omega)
            have hset := fun (V : World) (h : V.heap[w2.heap.size]? = some (.cells (bkC s n) 43 (0, 0))) => bkC_set h hn.2.2.1 hn.2.2.2.1
            have HBA := Lib.hid (fun (V : World) (hb : Below W.heap.size W V) => bank_at c V (HLW.out V hb) s n hsl.2 hn.1 hn.2.2.1)
            obtain ⟨q0, hq0⟩ : ∃ q, q = 2 * s := ⟨_, rfl⟩
            obtain ⟨q1, hq1⟩ : ∃ q, q = 2 * s + 1 := ⟨_, rfl⟩
            have HW0 := Lib.hid (fun (V : World) (hb : Below W.heap.size W V) => word_at c V (HLW.out V hb) q0 s 0 (by omega) hsl.2 (by omega))
            have HW1 := Lib.hid (fun (V : World) (hb : Below W.heap.size W V) => word_at c V (HLW.out V hb) q1 s 1 (by omega) hsl.2 (by omega))
            have HL0 := Lib.hid (fun (V : World) (hb : Below W.heap.size W V) => line_at c V (HLW.out V hb) q0 s 0 (by omega) hsl.2 (by omega))
            have HL1 := Lib.hid (fun (V : World) (hb : Below W.heap.size W V) => line_at c V (HLW.out V hb) q1 s 1 (by omega) hsl.2 (by omega))
            have hba : (n : Int) = c.ba := hn.1
            have eb1 : decide (((s % n : Nat) : Int) < 0) = false := by simp; omega
            have eb2 : decide (((s % n : Nat) : Int) ≥ c.ba) = false := by rw [← hba]; simpa using hbi
            generalize s % n = bi at HBA hbn hbi kb kbf hble hset eb1 eb2
            generalize bk s n bi = bv at kb hset hble
            simp only [hxs]
            have HH := Lib.hid (And.intro hbi hba)
            have hq64 : (q0 : Int) ≤ 64 ∧ (q1 : Int) ≤ 64 := by omega
            clear hq0 hq1 hbk hse hg hB hs hn hks hsl hl hr hlen hx1 hxl hbi hba hKK hKF
            gi_wp2_with fail
            refine ⟨trivial, ?_⟩
            refine (CallsIn.inRound l (callsIn_wide.2 (HBA.out _ (Below.refl _ _)))).mono ?_
            rintro e W4 ⟨rfl, hb⟩
            obtain ⟨hc4, hf4⟩ := bcell hb
            have HB4 := Lib.hid hb
            have xl4 := Nat.lt_of_lt_of_le xl hb.size
            have yl4 := Nat.lt_of_lt_of_le yl hb.size
            have sl4 := Nat.lt_of_lt_of_le sl hb.size
            have bl4 := Nat.lt_of_lt_of_le bl hb.size
            clear hb
            gi_wp2_with fail
            refine wpIn_loop_rounds 3 ?_
            rw [roundsIn_succ]
            gi_wp2_with fail
            refine ⟨trivial, ?_⟩
            refine (CallsIn.inRound l (callsIn_wide.2 (HW0.out _ HB4.out))).mono ?_
            rintro e W5 ⟨rfl, hb⟩
            obtain ⟨hc5, hf5⟩ := bcell hb
            have HB5 := Lib.hid (ext_trans HB4.out hb)
            have xl5 := Nat.lt_of_lt_of_le xl4 hb.size
            have yl5 := Nat.lt_of_lt_of_le yl4 hb.size
            have sl5 := Nat.lt_of_lt_of_le sl4 hb.size
            have bl5 := Nat.lt_of_lt_of_le bl4 hb.size
            clear hb
            gi_wp2_with fail
            refine ⟨trivial, ?_⟩
            refine (CallsIn.inRound l (callsIn_wide.2 (HL0.out _ HB5.out))).mono ?_
            rintro e W6 ⟨rfl, hb⟩
            obtain ⟨hc6, hf6⟩ := bcell hb
            have HB6 := Lib.hid (ext_trans HB5.out hb)
            have xl6 := Nat.lt_of_lt_of_le xl5 hb.size
            have yl6 := Nat.lt_of_lt_of_le yl5 hb.size
            have sl6 := Nat.lt_of_lt_of_le sl5 hb.size
            have bl6 := Nat.lt_of_lt_of_le bl5 hb.size
            clear hb
            gi_wp2_with fail
            rw [roundsIn_succ]
            gi_wp2_with fail
            refine ⟨trivial, ?_⟩
            refine (CallsIn.inRound l (callsIn_wide.2 (HW1.out _ HB6.out))).mono ?_
            rintro e W7 ⟨rfl, hb⟩
            obtain ⟨hc7, hf7⟩ := bcell hb
            have HB7 := Lib.hid (ext_trans HB6.out hb)
            have xl7 := Nat.lt_of_lt_of_le xl6 hb.size
            have yl7 := Nat.lt_of_lt_of_le yl6 hb.size
            have sl7 := Nat.lt_of_lt_of_le sl6 hb.size
            have bl7 := Nat.lt_of_lt_of_le bl6 hb.size
            clear hb
            gi_wp2_with fail
            refine ⟨trivial, ?_⟩
            refine (CallsIn.inRound l (callsIn_wide.2 (HL1.out _ HB7.out))).mono ?_
            rintro e W8 ⟨rfl, hb⟩
            obtain ⟨hc8, hf8⟩ := bcell hb
            have HB8 := Lib.hid (ext_trans HB7.out hb)
            have xl8 := Nat.lt_of_lt_of_le xl7 hb.size
            have yl8 := Nat.lt_of_lt_of_le yl7 hb.size
            have sl8 := Nat.lt_of_lt_of_le sl7 hb.size
            have bl8 := Nat.lt_of_lt_of_le bl7 hb.size
            clear hb
            gi_wp2_with fail
            rw [roundsIn_succ]
            gi_wp2_with fail
            have hV := ((Bt.refl W w2.heap.size (w2.heap.size + 1)).ext HB8.out).set w2.heap.size bi (.inl rfl) (.int .i64 (bv + 1)) |>.set (w2.heap.size + 1) 0 (.inr rfl) (.int .i64 ((s : Int) + 1))
            have hV3 := (HBT.out.ext HB8.out).set w2.heap.size bi (.inl rfl) (.int .i64 (bv + 1)) |>.set (w2.heap.size + 1) 0 (.inr rfl) (.int .i64 ((s : Int) + 1))
            have h1 := hset W8 ((HB8.out.block _ bl).trans HBK.out)
            have h2 := set_of (u := .int .i64 ((s : Int) + 1)) ((Below.heap_setCell W8 ⟨w2.heap.size, bi, none⟩ (.int .i64 ((bv : Int) + 1)) (w2.heap.size + 1) (by simp)).trans ((HB8.out.block _ sl).trans HSE.out))
            have e2 : 2 * k + (pre ++ [x]).length = s + 1 := by have := HSN.out.1; simp; omega
            refine ⟨HKF.out _ hV, HKK.out _ hV, ⟨?_, ?_, good_snoc HG.out ?_⟩, hV3⟩
            · rw [e2]
              exact (Below.heap_setCell _ _ _ _ (by simp)).trans h1
            · rw [e2]
              exact h2
            · have := HSN.out.1
              rw [hxs]
              omega
          · obtain ⟨bi, hbi⟩ : ∃ b, b = x.1 % c.ba := ⟨_, rfl⟩
            have hba : (0 : Int) < c.ba := by omega
            have hb0 : 0 ≤ bi := by rw [hbi]; exact Int.emod_nonneg _ (by omega)
            have hb1 : bi < c.ba := by rw [hbi]; exact Int.emod_lt_of_pos _ hba
            have eb1 : decide (bi < 0) = false := by simpa using hb0
            have eb2 : decide (bi ≥ c.ba) = false := by simpa using hb1
            have ex : (x.1 == (s : Int)) = false := by simpa using hxs
            have HBA := Lib.hid (fun (V : World) (hb : Below W.heap.size W V) => bank_ok c x.1 V (HLW.out V hb) hxl.1 hxl.2 (by omega))
            have HNG : Hid (¬ good01 (pre ++ [x])) := Lib.hid (not_good (by have := HSN.out.1; omega))
            rw [← hbi] at HBA
            obtain ⟨xv, hxv⟩ : ∃ v, v = x.1 := ⟨_, rfl⟩
            simp only [← hxv] at HBA ex ⊢
            clear hxv hbk hse hg hB hs hn hks hsl hl hr hlen hx1 hxl hbi hKK hKF hxs hb0 hb1 hba
            gi_wp2_with fail
            refine ⟨trivial, ?_⟩
            refine (CallsIn.inRound l (callsIn_wide.2 (HBA.out _ (Below.refl _ _)))).mono ?_
            rintro e W4 ⟨rfl, hb⟩
            obtain ⟨hc4, hf4⟩ := bcell hb
            have HB4 := Lib.hid hb
            have xl4 := Nat.lt_of_lt_of_le xl hb.size
            have yl4 := Nat.lt_of_lt_of_le yl hb.size
            have sl4 := Nat.lt_of_lt_of_le sl hb.size
            clear hb
            gi_wp2_with fail
            exact ⟨((KeepsOthers.of_grownBy (grown_of_below HB4.out) (fun j o e => by cases e)).trans (KeepsOthers.setCell _ _ _)).from _, rfl, HNG.out⟩
        case done =>
          rintro D ys W hD rfl ⟨⟨hbk, hse, hg⟩, hB⟩ hK
          have hlen : (lns c (k : Int)).length = 2 := by
            have hn := HN.out
            have hks := HLT.out
            have hh : has c (k : Int) := ⟨HC.out, by omega, by omega⟩
            unfold lns
            rw [dif_pos hh]
            rfl
          rw [hlen] at hbk hse
          have HSD := Lib.hid (HS3.out.turn hB hbk hse)
          have HSX := Lib.hid (show Sb w W c n w2.heap.size (w2.heap.size + 1) (2 * (k + 1)) (D :: ds) from
            ⟨HSD.out.be, HSD.out.cf, HSD.out.re, HSD.out.bk, HSD.out.se, ⟨List.nodup_cons.2 ⟨fun hm => by have := lt_of (HS3.out.ds.2 D hm).2; omega, HSD.out.ds.1⟩, fun E hE => by
              rcases List.mem_cons.1 hE with rfl | hE
              · exact ⟨by have := HS3.out.be.size; omega, hK⟩
              · exact HSD.out.ds.2 E hE⟩, HSD.out.lt⟩)
          clear hbk hse hg hB hK hD hlen
          obtain ⟨F, hF⟩ : ∃ F, F = Value.func (.func 42) #[] #[.pointer (some ⟨wg.heap.size, 0, none⟩), .pointer (some ⟨wg.heap.size + 1, 0, none⟩)] := ⟨_, rfl⟩
          go_wp2_with fail
          refine ⟨ng - (k + 1), [.int .i64 (k + 1 : Nat), F, .int .i64 k, .pointer (some ⟨w.heap.size, 1, none⟩), .int .i64 c.gr, .bool true, .int .i64 k, .int .i64 ((k : Int) + 1), .agg #[.int .i64 c.co, .int .i64 c.gr, .int .i64 c.se, .int .i64 c.wa, .int .i64 c.de, .int .i64 c.en, .int .i64 c.ba], .int .i64 k, F, F, .bool false, F], D :: ds, by have := HLT.out; omega,
            ⟨k + 1, _, _, _, _, _, _, _, _, _, _, _, _, _, rfl, by have := HLT.out; omega, HSX⟩, ?_⟩
          simp only [setAll, List.zip_cons_cons, List.zip_nil_right, List.foldl_cons, List.foldl_nil, List.setIfInBounds_toArray, List.set_cons_succ, List.set_cons_zero]
          rw [hF]
          rfl
        case stop =>
          rintro D cc pre W hD hpre ⟨rfl, hb⟩ hK
          exact absurd (good_pre (good_lns c k) hpre) hb
      · have ek : decide ((k : Int) < c.gr) = false := by have := HN.out; simp; omega
        obtain rfl : k = ng := by omega
        have HN' := Lib.hid (And.intro HN.out hk)
        have ha := fun i (hi : i < 4) => bkC_at HS.out.bk hi
        have hb4 : (n : Int) ≤ 4 := by have := HN.out; omega
        have hnb : (n : Int) = c.ba := HN.out.1
        have kse := cell_of HS.out.se
        have bl := lt_of HS.out.bk
        have sl := lt_of HS.out.se
        have hs0 := (ha 0 (by omega)).1
        obtain ⟨b0, hb0⟩ : ∃ b, b = bk (2 * k) n 0 := ⟨_, rfl⟩
        have hb32 : (b0 : Int) ≤ 32 := by have := bk_le (2 * k) n 0 HN.out.2.2.1 HN.out.2.2.2.1 (by have := HN.out; omega); omega
        rw [← hb0] at hs0
        have HA := Lib.hid ha
        have HB0 := Lib.hid hb0
        clear hlt hk ha hb0
        go_wp2_with fail
        go_loopg [22] n (fun g s22 wq => ∃ j : Nat, s22 = .int .i64 j ∧ j + g = n ∧ Hid (Below wg.heap.size wg wq))
        case atStart => exact ⟨0, rfl, by omega, Lib.hid (Below.refl _ _)⟩
        case round =>
          obtain ⟨j, rfl, hj, HX⟩ := hrel
          have HSR := Lib.hid (HS.out.ext HX.out)
          clear k0 k1 k2 k3 k4 k5 k6 xl yl kse hs0 bl sl
          obtain ⟨k0, k1, k2, k3, k4, k5, k6⟩ := cfg_cells HSR.out.cf
          have xl := lt_of HSR.out.cf
          have yl := lt_of HSR.out.re
          have bl := lt_of HSR.out.bk
          have hs0 := (bkC_at HSR.out.bk (i := 0) (by omega)).1
          rw [← HB0.out] at hs0
          by_cases hlt : j < n
          · have hsj := (bkC_at HSR.out.bk (i := j) (by omega)).1
            have hev := bk_even (2 * k) n j HN.out.2.2.1 HN.out.2.2.2.1 hlt
            rw [← HB0.out] at hev
            generalize bk (2 * k) n j = bj at hsj hev
            have e1 : decide ((bj : Int) < (b0 : Int) - 1) = false := by simp; omega
            have e2 : decide ((bj : Int) > (b0 : Int)) = false := by simp; omega
            have e2' : decide (b0 < bj) = false := by simp; omega
            have e3 : decide ((j : Int) < c.ba) = true := by simp; omega
            have j4 : (j : Int) < 4 := by omega
            have HJ := Lib.hid (And.intro hj hlt)
            clear hev hlt hj
            go_wp2_with fail
            refine region_past (by kernel_rfl) (by kernel_rfl) ?_; (repeat (go_big_quiet_step (fail))); refine wpQuiet_nil ?_; rintro _ ⟨p, rfl⟩
            go_wp2_with fail
            go_roundg (n - (j + 1))
            case measure => have := HJ.out; omega
            case rel => exact ⟨j + 1, by go_num, by have := HJ.out; omega, Lib.hid (ext_past p HX.out)⟩
          · have e3 : decide ((j : Int) < c.ba) = false := by simp; omega
            have kse := cell_of HSR.out.se
            have sl := lt_of HSR.out.se
            have kr := cell_of HSR.out.re
            have fr := free_of HSR.out.re
            have hlk : ((2 * k : Nat) : Int) = lin c := by have := HN.out; omega
            have HQ0 := Lib.hid (fun (V : World) (h1 : V.heap[w2.heap.size + 1]? = some (.cells #[.int .i64 (2 * k : Nat)] 3 (0, 0))) (h2 : V.heap[w.heap.size]? = some (.cells #[.int .i64 c.co, .int .i64 c.gr, .int .i64 c.se, .int .i64 c.wa, .int .i64 c.de, .int .i64 c.en, .int .i64 c.ba] 23 (0, 0))) => show V.cell? ⟨w2.heap.size + 1, 0, none⟩ = some (.int .i64 (lin c)) ∧ _ from ⟨by rw [← hlk]; exact cell_of h1, cfg_cells h2⟩)
            have HQ := Lib.hid (fun (V : World) (h : Sb w V c n w2.heap.size (w2.heap.size + 1) (2 * k) ds) => HQ0.out V h.se h.cf)
            clear hlt hj hlk kse
            go_wp2_with fail
            clear k0 k1 k2 k3 k4 k5 k6
            have HSd := Lib.hid (show Sb w wr.drew c n w2.heap.size (w2.heap.size + 1) (2 * k) ds from HSR.out.ext (ext_drew (Below.refl _ wr)))
            have QQ := HQ.out _ HSd.out
            go_region_held3 (fun w' => w'.cell? ⟨w2.heap.size + 1, 0, none⟩ = some (.int .i64 (lin c)) ∧ w'.cell? ⟨w.heap.size, 0, none⟩ = some (.int .i64 c.co) ∧ w'.cell? ⟨w.heap.size, 1, none⟩ = some (.int .i64 c.gr) ∧ w'.cell? ⟨w.heap.size, 2, none⟩ = some (.int .i64 c.se) ∧ w'.cell? ⟨w.heap.size, 3, none⟩ = some (.int .i64 c.wa) ∧ w'.cell? ⟨w.heap.size, 4, none⟩ = some (.int .i64 c.de) ∧ w'.cell? ⟨w.heap.size, 5, none⟩ = some (.int .i64 c.en) ∧ w'.cell? ⟨w.heap.size, 6, none⟩ = some (.int .i64 c.ba))
              (first | exact QQ | exact HQ0.out _ ((Below.heap_setCell _ _ _ _ (by have := HS6.out.lt; simp; omega)).trans HS6.out.se) ((Below.heap_setCell _ _ _ _ (by simp)).trans HS6.out.cf))
              (first
                | (go_at_call 16; refine (lines_any c _ (HL.out.ext HSd.out.be)).mono ?_; rintro e w5 ⟨rfl, hb⟩; have HS5 := Lib.hid (HSd.out.ext hb); have QQ := HQ.out _ HS5.out; clear hb)
                | (go_at_call 17; refine (awake01 _ (HL.out.ext HS5.out.be)).mono ?_; rintro e w6 ⟨rfl, hb⟩; have HS6 := Lib.hid (HS5.out.ext hb); have QQ := HQ.out _ HS6.out; have kr6 := cell_of HS6.out.re; have fr6 := free_of HS6.out.re; have yl6 := lt_of HS6.out.re; clear hb))
            clear QQ
            go_wp2_with fail
            have hs6 := set_of (u := .bool true) HS6.out.re
            have hb6 : Below w.heap.size w (w6.setCell ⟨w.heap.size + 1, 0, none⟩ (.bool true)) := HS6.out.be.setCell (p := ⟨w.heap.size + 1, 0, none⟩) (by simp) _
            have hd6 := HS6.out.ds
            refine leaves_all (fun V => Below w.heap.size w V ∧ V.heap[w.heap.size + 1]? = some (.cells #[.bool true] 4 (0, 0))) ds ?_ ?_ ds _ hd6.1 (fun D h => h) ?_ ⟨hb6, hs6⟩
            · rintro V D hD hV ⟨hb, hc⟩
              refine ⟨hb.trans (belowK_b (w := w) (Nat.le_refl _) V D _ _ (hd6.2 D hD).1 hV rfl rfl), ?_⟩
              rw [World.putObj_heap_other (fun e => by rw [e, hV] at hc; cases hc)]
              exact hc
            · rintro V ⟨hb, hc⟩
              have kc := cell_of hc
              refine ⟨.bool true, ?_, rfl, hb⟩
              simp [results, Tryd.f6, go_sem, kc]
            · intro D hD
              refine (Below.heap_setCell _ _ _ _ (fun e => ?_)).trans (hd6.2 D hD).2
              have := (hd6.2 D hD).2
              rw [e, HS6.out.re] at this
              cases this

theorem placeBack_walk (c : Cfg) (w : World) (hL : Lims w) : Calls Tryd.prog 6 #[.agg #[.int .i64 c.co, .int .i64 c.gr, .int .i64 c.se, .int .i64 c.wa, .int .i64 c.de, .int .i64 c.en, .int .i64 c.ba]] w fun e w' => e = .returned (.bool true) ∧ Below w.heap.size w w' := by
  by_cases hc : c.ok
  · exact placeBack_yes c w hL hc
  · exact placeBack_no c w hL hc

end Go.Proofs.YtnbdaffbmpbfjaaDoor
