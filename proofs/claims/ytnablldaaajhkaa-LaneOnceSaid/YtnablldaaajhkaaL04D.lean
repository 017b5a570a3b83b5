/- What this text holds: the walk of the law LaneOnce. No condition. -/
import Derived.Test.YtnablldaaajhkaaLanS
import Derived.Sort.LoopGhostIn
import Derived.Test.YtnablldaaajhkaaRbx
namespace Go.Proofs.Ytnablldaaajhkaa
open Go.RowKit Go.Shelf
attribute [local go_sem] Oper.semAt_some

/-- The note of a number. -/
def mkN (j : Nat) : Nt := ⟨4, 0, j, 0, 0, 0, 0, false, 0⟩
/-- How often numbers were seen. -/
def sv (js : List Nat) (n : Nat) (i : Nat) : Int := if i ∈ js then 0 else if i < n then 1 else 0
theorem sv_put (js : List Nat) (n : Nat) (h : ∀ j ∈ js, j < n) (i : Nat) : sv (js ++ [n]) (n + 1) i = sv js n i := by
  unfold sv
  by_cases h1 : i ∈ js
  · simp [h1]
  · by_cases h2 : i = n
    · subst h2; simp [h1]
    · simp only [List.mem_append, h1, List.mem_singleton, h2, or_self, if_false]
      by_cases h3 : i < n
      · rw [if_pos (by omega), if_pos h3]
      · rw [if_neg (by omega), if_neg h3]
theorem sv_take (js : List Nat) (n t : Nat) (h : js.Pairwise (· < ·)) (ht : t < js.length) (hn : ∀ j ∈ js, j < n) (i : Nat) : sv (js.eraseIdx t) n i = if i = js[t] then sv js n i + 1 else sv js n i := by
  have hm : i ∈ js.eraseIdx t ↔ i ≠ js[t] ∧ i ∈ js := by
    rw [List.mem_eraseIdx_iff_getElem?]
    constructor
    · rintro ⟨k, hk, hki⟩
      obtain ⟨hkl, hke⟩ := List.getElem?_eq_some_iff.1 hki
      refine ⟨fun e => ?_, hke ▸ List.getElem_mem hkl⟩
      have hp := List.pairwise_iff_getElem.1 h
      rcases Nat.lt_or_gt_of_ne hk with h1 | h1
      · have := hp k t hkl ht h1; omega
      · have := hp t k ht hkl h1; omega
    · rintro ⟨h1, h2⟩
      obtain ⟨k, hkl, hke⟩ := List.getElem_of_mem h2
      exact ⟨k, fun e => h1 (by subst e; exact hke.symm), by rw [List.getElem?_eq_getElem hkl, hke]⟩
  have hl : js[t] < n := hn _ (List.getElem_mem ht)
  unfold sv
  by_cases h1 : i = js[t]
  · have h2 : i ∈ js := h1 ▸ List.getElem_mem ht
    rw [if_neg (fun h => (hm.1 h).1 h1), if_pos (by omega), if_pos h1, if_pos h2]
    rfl
  · rw [if_neg h1]
    by_cases h2 : i ∈ js
    · rw [if_pos (hm.2 ⟨h1, h2⟩), if_pos h2]
    · rw [if_neg (fun h => h2 (hm.1 h).2), if_neg h2]

/-- The array of what was seen. -/
def Seen (w : World) (S : Nat) (s : Nat → Int) : Prop := ∃ cs, w.heap[S]? = some (.cells cs 40 (0, 0)) ∧ cs.size = 200 ∧ ∀ i, i < 200 → cs[i]? = some (.int .i64 (s i))
theorem Seen.cell {w : World} {S : Nat} {s : Nat → Int} (h : Seen w S s) {i : Nat} (hi : i < 200) : w.cell? ⟨S, i, none⟩ = some (.int .i64 (s i)) := by
  obtain ⟨cs, h1, _, h3⟩ := h
  simp [World.cell?, h1, h3 i hi]
theorem Seen.free {w : World} {S : Nat} {s : Nat → Int} (h : Seen w S s) (i : Nat) : w.frozen? ⟨S, i, none⟩ = false := by
  obtain ⟨cs, h1, _, h3⟩ := h
  simp [World.frozen?, h1]
theorem Seen.lt {w : World} {S : Nat} {s : Nat → Int} (h : Seen w S s) : S < w.heap.size := by
  obtain ⟨cs, h1, _, h3⟩ := h
  exact lt_of h1
theorem Seen.keep {w w' : World} {S : Nat} {s : Nat → Int} (h : Seen w S s) (k : w'.heap[S]? = w.heap[S]?) : Seen w' S s := by
  obtain ⟨cs, h1, h2⟩ := h
  exact ⟨cs, k.trans h1, h2⟩
theorem Seen.held {w w' : World} {S : Nat} {s : Nat → Int} {row : Option Nat} (h : Seen w S s) (hg : w.grownBy w' row) (hr : ∀ r, row = some r → ∃ o : Obj, w.heap[r]? = some o ∧ o.isCells = false) : Seen w' S s := by
  obtain ⟨cs, h1, h2⟩ := h
  exact ⟨cs, blk_held h1 hg hr, h2⟩
theorem Seen.set {w : World} {S : Nat} {s : Nat → Int} (h : Seen w S s) {j : Nat} (hj : j < 200) (x : Int) : Seen (w.setCell ⟨S, j, none⟩ (.int .i64 x)) S (fun i => if i = j then x else s i) := by
  obtain ⟨cs, h1, h2, h3⟩ := h
  refine ⟨_, Joins.block_setCell (i := j) h1 (.int .i64 x), by simpa using h2, fun i hi => ?_⟩
  by_cases hij : i = j
  · subst hij
    simp [h2, hi]
  · show _ = some (Value.int .i64 (if i = j then x else s i))
    rw [if_neg hij, ← h3 i hi]
    simp [Ne.symm hij]
theorem Seen.of_eq {w : World} {S : Nat} {s s' : Nat → Int} (h : Seen w S s) (e : ∀ i, s i = s' i) : Seen w S s' := by
  obtain ⟨cs, h1, h2, h3⟩ := h
  exact ⟨cs, h1, h2, fun i hi => by rw [h3 i hi, e i]⟩

theorem cells_of_cell {w : World} {a : Addr} {v : Value} (h : w.cell? a = some v) : ∃ cs t fr, w.heap[a.block]? = some (.cells cs t fr) := by
  unfold World.cell? at h
  split at h
  · rename_i cs t fr heq
    exact ⟨cs, t, fr, heq⟩
  · exact absurd h (by simp)
theorem La.held {w w' : World} {p : Nat} {d : Int} {v : Value} {xs : List Nt} {row : Option Nat} (h : La w p d v xs) (hg : w.grownBy w' row) (hr : ∀ r, row = some r → ∃ o : Obj, w.heap[r]? = some o ∧ o.isCells = false) : La w' p d v xs := by
  refine h.of_blocks hg.size ?_ (fun g e => ?_)
  · obtain ⟨cs, t, fr, h1⟩ := cells_of_cell h.c0
    exact (blk_held h1 hg hr).trans h1.symm
  · rcases h.own.2 with ⟨rfl, _⟩ | ⟨g', cap, cur, rfl, _, hgg, _⟩
    · cases e
    · cases e
      exact (blk_held hgg hg hr).trans hgg.symm

/-- The law's own boxes beside a lane. -/
structure Bx4 (W w : World) (p S N R : Nat) (v : Value) (s : Nat → Int) (n : Int) : Prop where
  seen : Seen w S s
  nx : w.heap[N]? = some (.cells #[.int .i64 n] 3 (0, 0))
  rs : w.heap[R]? = some (.cells #[.bool false] 4 (0, 0))
  below : Below W.heap.size W w
  hp : W.heap.size ≤ p
  hS : W.heap.size ≤ S
  hN : W.heap.size ≤ N
  hR : W.heap.size ≤ R
  pS : p ≠ S
  pN : p ≠ N
  pR : p ≠ R
  SN : S ≠ N
  SR : S ≠ R
  NR : N ≠ R
  own : ∀ g, v.ownBlock = some g → W.heap.size ≤ g ∧ g ≠ S ∧ g ≠ N ∧ g ≠ R
theorem Bx4.ext {W w w' : World} {p S N R : Nat} {v : Value} {s : Nat → Int} {n : Int} (h : Bx4 W w p S N R v s n) (hb : Below w.heap.size w w') : Bx4 W w' p S N R v s n :=
  ⟨h.seen.keep (hb.block _ h.seen.lt), (hb.block _ (lt_of h.nx)).trans h.nx, (hb.block _ (lt_of h.rs)).trans h.rs, h.below.trans (hb.mono h.below.size), h.hp, h.hS, h.hN, h.hR, h.pS, h.pN, h.pR, h.SN, h.SR, h.NR, h.own⟩
theorem Bx4.tch {W w w' : World} {p S N R : Nat} {v v' : Value} {s : Nat → Int} {n : Int} {o : Option Nat} (h : Bx4 W w p S N R v s n) (t : Tch w w' p o) (ho : o = none ∨ o = v.ownBlock) (hf : ∀ g, v'.ownBlock = some g → v.ownBlock = some g ∨ w.heap.size ≤ g) : Bx4 W w' p S N R v' s n := by
  have hon : ∀ k, o = some k → v.ownBlock = some k := fun k e => by rcases ho with h | h; · rw [h] at e; cases e
                                                                    · rw [← h]; exact e
  have hk : ∀ k, k < w.heap.size → k ≠ p → (∀ g, v.ownBlock = some g → g ≠ k) → w'.heap[k]? = w.heap[k]? := fun k h1 h2 h3 => t.block k h1 h2 (fun e => h3 k (hon k e.symm) rfl)
  have hsl := h.seen.lt
  have hnl := lt_of h.nx
  have hrl := lt_of h.rs
  refine ⟨h.seen.keep (hk _ hsl (Ne.symm h.pS) (fun g hg => (h.own g hg).2.1)), (hk _ hnl (Ne.symm h.pN) (fun g hg => (h.own g hg).2.2.1)).trans h.nx, (hk _ hrl (Ne.symm h.pR) (fun g hg => (h.own g hg).2.2.2)).trans h.rs,
    t.below h.below h.hp (fun g hg => (h.own g (hon g hg)).1), h.hp, h.hS, h.hN, h.hR, h.pS, h.pN, h.pR, h.SN, h.SR, h.NR, fun g hg => ?_⟩
  rcases hf g hg with h1 | h1
  · exact h.own g h1
  · have := h.below.size
    exact ⟨by omega, by omega, by omega, by omega⟩
theorem Bx4.setN {W w : World} {p S N R : Nat} {v : Value} {s : Nat → Int} {n : Int} (h : Bx4 W w p S N R v s n) (x : Int) : Bx4 W (w.setCell ⟨N, 0, none⟩ (.int .i64 x)) p S N R v s x :=
  ⟨h.seen.keep (Below.heap_setCell _ _ _ _ (by simpa using h.SN)), set_of h.nx, (Below.heap_setCell _ _ _ _ (by simpa using Ne.symm h.NR)).trans h.rs, h.below.setCell (p := ⟨N, 0, none⟩) h.hN _, h.hp, h.hS, h.hN, h.hR, h.pS, h.pN, h.pR, h.SN, h.SR, h.NR, h.own⟩
theorem Bx4.setS {W w : World} {p S N R : Nat} {v : Value} {s : Nat → Int} {n : Int} (h : Bx4 W w p S N R v s n) {j : Nat} (hj : j < 200) (x : Int) : Bx4 W (w.setCell ⟨S, j, none⟩ (.int .i64 x)) p S N R v (fun i => if i = j then x else s i) n :=
  ⟨h.seen.set hj x, (Below.heap_setCell _ _ _ _ (by simpa using Ne.symm h.SN)).trans h.nx, (Below.heap_setCell _ _ _ _ (by simpa using Ne.symm h.SR)).trans h.rs, h.below.setCell (p := ⟨S, j, none⟩) h.hS _, h.hp, h.hS, h.hN, h.hR, h.pS, h.pN, h.pR, h.SN, h.SR, h.NR, h.own⟩
theorem Bx4.of_eq {W w : World} {p S N R : Nat} {v : Value} {s s' : Nat → Int} {n : Int} (h : Bx4 W w p S N R v s n) (e : ∀ i, s i = s' i) : Bx4 W w p S N R v s' n :=
  ⟨h.seen.of_eq e, h.nx, h.rs, h.below, h.hp, h.hS, h.hN, h.hR, h.pS, h.pN, h.pR, h.SN, h.SR, h.NR, h.own⟩
theorem Bx4.held {W w w' : World} {p S N R : Nat} {v : Value} {s : Nat → Int} {n : Int} {row : Option Nat} (h : Bx4 W w p S N R v s n) (hg : w.grownBy w' row) (hr : ∀ r, row = some r → W.heap.size ≤ r ∧ ∃ o : Obj, w.heap[r]? = some o ∧ o.isCells = false) : Bx4 W w' p S N R v s n :=
  ⟨h.seen.held hg (fun r e => (hr r e).2), blk_held h.nx hg (fun r e => (hr r e).2), blk_held h.rs hg (fun r e => (hr r e).2), h.below.grown hg h.below.size (fun k e => (hr k e).1), h.hp, h.hS, h.hN, h.hR, h.pS, h.pN, h.pR, h.SN, h.SR, h.NR, h.own⟩
theorem La.setCell {w : World} {p : Nat} {d : Int} {v : Value} {xs : List Nt} (h : La w p d v xs) {a : Addr} (ha : p ≠ a.block) (hv : ∀ g, v.ownBlock = some g → g ≠ a.block) (u : Value) : La (w.setCell a u) p d v xs :=
  h.of_blocks (by simp) (Below.heap_setCell _ _ _ _ ha) (fun g hg => Below.heap_setCell _ _ _ _ (hv g hg))

theorem once_out (d : Int) (A : Option Addr) (m cap : Nat) (w : World) (h : d < 1 ∨ 16 < d ∨ 200 < m) :
    Calls Try.prog 5 #[.int .i64 d, .slice A m cap] w fun e w' => e = .returned (.bool true) ∧ Below w.heap.size w w' := by
  by_cases h1 : d < 1
  · clear h
    go_enter Try.func5, Try.ntmps5
    go_wp2_with fail
    refine (awake04 _).mono ?_
    rintro e w1 ⟨rfl, hb⟩
    have hc := (hb.block w.heap.size (by simp)).trans (alNew rfl)
    have k0 := cell_of hc
    have f0 := free_of hc
    have hl := lt_of hc
    have HB := Lib.hid (ext_trans (ext_alloc (.cells #[.bool false] 4) (Below.refl _ w)) hb)
    clear hb hc
    go_wp2_with fail
    have kk := World.cell?_setCell_same w1 ⟨w.heap.size, 0, none⟩ (.bool true) k0
    (try simp only [Exit.inBlock, Exit.then]); refine bodyPost_ret (by simp [results, Try.results5, go_sem, kk]; try rfl) rfl ?_
    exact ⟨rfl, HB.out.setCell (p := ⟨w.heap.size, 0, none⟩) (Nat.le_refl _) _⟩
  have e1 : decide (d < 1) = false := by simp; omega
  by_cases h2 : 16 < d
  · clear h
    go_enter Try.func5, Try.ntmps5
    go_wp2_with fail
    refine (awake04 _).mono ?_
    rintro e w1 ⟨rfl, hb⟩
    have hc := (hb.block w.heap.size (by simp)).trans (alNew rfl)
    have k0 := cell_of hc
    have f0 := free_of hc
    have hl := lt_of hc
    have HB := Lib.hid (ext_trans (ext_alloc (.cells #[.bool false] 4) (Below.refl _ w)) hb)
    clear hb hc
    go_wp2_with fail
    have kk := World.cell?_setCell_same w1 ⟨w.heap.size, 0, none⟩ (.bool true) k0
    (try simp only [Exit.inBlock, Exit.then]); refine bodyPost_ret (by simp [results, Try.results5, go_sem, kk]; try rfl) rfl ?_
    exact ⟨rfl, HB.out.setCell (p := ⟨w.heap.size, 0, none⟩) (Nat.le_refl _) _⟩
  have e2 : decide (d > 16) = false := by simp; omega
  · have e3 : decide ((m : Int) > 200) = true := by simp; omega
    clear h
    go_enter Try.func5, Try.ntmps5
    go_wp2_with fail
    refine (awake04 _).mono ?_
    rintro e w1 ⟨rfl, hb⟩
    have hc := (hb.block w.heap.size (by simp)).trans (alNew rfl)
    have k0 := cell_of hc
    have f0 := free_of hc
    have hl := lt_of hc
    have HB := Lib.hid (ext_trans (ext_alloc (.cells #[.bool false] 4) (Below.refl _ w)) hb)
    clear hb hc
    go_wp2_with fail
    have kk := World.cell?_setCell_same w1 ⟨w.heap.size, 0, none⟩ (.bool true) k0
    (try simp only [Exit.inBlock, Exit.then]); refine bodyPost_ret (by simp [results, Try.results5, go_sem, kk]; try rfl) rfl ?_
    exact ⟨rfl, HB.out.setCell (p := ⟨w.heap.size, 0, none⟩) (Nat.le_refl _) _⟩

theorem iseq_nil (w : World) (f : Fn) (a b : Array Value) : (binOp .eql 50 (.func f a b) .nilFunc).run Try.prog w = .ok (.bool false) w := by
  have h : ∀ d : Nat, (Op.equalIn (d + 1) 50 (.func f a b) .nilFunc).run Try.prog w = .ok false w := fun d => by
    simp [Op.equalIn, run_underlying Try.underlying50]
  simp only [binOp]
  simp [Op.equal, Op.maxDepth, h 9999]
theorem map_erase {α β : Type} (f : α → β) : ∀ (l : List α) (t : Nat), (l.map f).eraseIdx t = (l.eraseIdx t).map f
  | [], _ => by simp
  | _ :: _, 0 => by simp
  | x :: l, t + 1 => by simp [map_erase f l t]
theorem mk_only {js : List Nat} {pre : List Nt} {x : Nt} (h : pre ++ [x] <+: js.map mkN) : pre <+: js.map mkN ∧ ∃ hl : pre.length < js.length, x = mkN js[pre.length] ∧ js.drop pre.length = js[pre.length] :: js.drop (pre.length + 1) := by
  have h1 := pre_only h
  have h2 : pre.length < js.length := by
    have := h.length_le
    simp at this
    omega
  refine ⟨(List.prefix_append pre [x]).trans h, h2, ?_, (List.drop_eq_getElem_cons h2)⟩
  rw [h1]
  simp [atN, h2]
theorem sv_next (js : List Nat) (n k : Nat) (hk : k < js.length) (hs : js.Pairwise (· < ·)) (hn : ∀ j ∈ js, j < n) (s : Nat → Int) (h : ∀ i, s i = sv (js.drop k) n i) (i : Nat) :
    (if i = js[k] then s js[k] + 1 else s i) = sv (js.drop (k + 1)) n i := by
  have hd := List.drop_eq_getElem_cons hk
  have hno : js[k] ∉ js.drop (k + 1) := by
    have := hs.sublist (List.drop_sublist k js)
    rw [hd] at this
    intro hm
    have := (List.pairwise_cons.1 this).1 _ hm
    omega
  have hlt : js[k] < n := hn _ (List.getElem_mem hk)
  by_cases hi : i = js[k]
  · rw [if_pos hi, h, hd]
    subst hi
    unfold sv
    rw [if_pos List.mem_cons_self, if_neg hno, if_pos hlt]
    rfl
  · rw [if_neg hi, h, hd]
    unfold sv
    simp only [List.mem_cons, hi, false_or]
theorem sv_bd (js : List Nat) (n i : Nat) : 0 ≤ sv js n i ∧ sv js n i ≤ 1 := by
  unfold sv
  split
  · omega
  · split <;> omega
/-- An array of 200 zeros. -/
def zs200 : Array Value := Array.replicate 200 (.int .i64 0)
theorem zero200 (w : World) : (zeroValue 40).run Try.prog w = .ok (.agg zs200) w := by kernel_rfl
theorem seen_new (w : World) : Seen (w.alloc (.cells zs200 40)) w.heap.size (sv [] 0) := by
  refine ⟨_, alNew rfl, by simp [zs200], fun i hi => ?_⟩
  simp [zs200, sv, hi]
/-- The first loop's state. -/
structure On4 (W w : World) (p S N R : Nat) (d : Int) (n : Nat) : Prop where
  it : ∃ v js, La w p d v (js.map mkN) ∧ Bx4 W w p S N R v (sv js n) n ∧ js.Pairwise (· < ·) ∧ (∀ j ∈ js, j < n) ∧ (js.length : Int) ≤ d
theorem On4.ext {W w w' : World} {p S N R : Nat} {d : Int} {n : Nat} (h : On4 W w p S N R d n) (hb : Below w.heap.size w w') : On4 W w' p S N R d n := by
  obtain ⟨v, js, h1, h2, h3⟩ := h.it
  exact ⟨v, js, h1.ext hb, h2.ext hb, h3⟩

set_option maxRecDepth 100000 in
set_option maxHeartbeats 8000000 in
theorem once_in (d : Int) (A : Option Addr) (cap : Nat) (l : List Int) (w : World) (h : SlI w A l) (h1 : 1 ≤ d) (h2 : d ≤ 16) (hl : l.length ≤ 200) :
    Calls Try.prog 5 #[.int .i64 d, .slice A l.length cap] w fun e w' => e = .returned (.bool true) ∧ Below w.heap.size w w' := by
  have H := Lib.hid h
  have e1 : decide (d < 1) = false := by simp; omega
  have e2 : decide (d > 16) = false := by simp; omega
  have e3 : decide ((l.length : Int) > 200) = false := by simp; omega
  clear h
  refine (callsIn_wide (n := 6)).1 ?_
  have hro : Fence.wide.round = none := rfl
  refine callsIn_of_wp_marks Try.func5 rfl trivial ?_ hro
  simp only [Try.ntmps5, List.size_toArray, List.length_cons, List.length_nil, Nat.reduceAdd, Nat.reduceSub, Array.replicate_succ, Array.replicate_zero, List.push_toArray, List.append_toArray, List.nil_append, List.cons_append]
  gi_wp2_with fail
  refine ⟨trivial, ?_⟩
  refine (callsIn_wide.2 (lnew_ok d _ h1 h2)).mono ?_
  rintro e w1 ⟨rfl, hL1, hB1⟩
  have hL := hL1
  rw [show (w.alloc (.cells #[.bool false] 4)).heap.size = w.heap.size + 1 by simp] at hL ⊢
  have hR := (hB1.block w.heap.size (by simp)).trans (alNew rfl)
  have HL := Lib.hid hL
  have HR := Lib.hid hR
  have HB := Lib.hid (ext_trans (ext_alloc (.cells #[.bool false] 4) (Below.refl _ w)) hB1)
  have hp := hL.lt
  clear hL1 hB1 hL hR
  have hz := zero200
  gi_wp2_with fail
  clear hz
  have HO : Hid (On4 w ((w1.alloc (.cells zs200 40)).alloc (.cells #[.int .i64 0] 3)) (w.heap.size + 1) w1.heap.size (w1.heap.size + 1) w.heap.size d 0) := Lib.hid ⟨⟨.slice none 0 0, [], HL.out.ext (ext_alloc _ (ext_alloc _ (Below.refl _ _))), ⟨(seen_new w1).keep (Below.heap_alloc _ _ _ (by simp)), alNew (by simp), alOld (alOld HR.out), ext_alloc _ (ext_alloc _ HB.out), by omega, by omega, by omega, Nat.le_refl _, by omega, by omega, by omega, by omega, by omega, by omega, fun g hg => by cases hg⟩, List.Pairwise.nil, (fun j hj => by cases hj), by simp; omega⟩⟩
  have hS : w.heap.size + 1 < w1.heap.size := hp
  clear hp HL HR HB
  gi_loopg [9] l.length (fun g9 s9 wr => ∃ k n : Nat, k + g9 = l.length ∧ s9 = .int .i64 k ∧ n ≤ k ∧ Hid (On4 w wr (w.heap.size + 1) w1.heap.size (w1.heap.size + 1) w.heap.size d n))
  case atStart => exact ⟨0, 0, by omega, rfl, by omega, HO⟩
  case round =>
    obtain ⟨k, n, hk, rfl, hn, HR⟩ := hrel
    by_cases hlt : k < l.length
    · have ek : decide ((k : Int) < (l.length : Int)) = true := by simp; omega
      obtain ⟨v, js, hla, hbx, hsrt, hjn, hjl⟩ := HR.out.it
      obtain ⟨b, off, rfl, hb, hc⟩ := H.out (by omega)
      have c0 : wr.cell? ⟨b, off + k, none⟩ = some (.int .i64 (l[k]?.getD 0)) := (hbx.below.cell (p := ⟨b, off + k, none⟩) hb).trans (hc k hlt)
      have nc := cell_of hbx.nx
      have nf := free_of hbx.nx
      have nl := lt_of hbx.nx
      have HLa := Lib.hid hla
      have HBx := Lib.hid hbx
      have HJ := Lib.hid (And.intro hsrt hjn)
      have hjl' : js.length ≤ 16 := by omega
      have hlen : Hid ((js.map mkN).length = js.length) := Lib.hid (by simp)
      clear hc hla hbx hsrt hjn
      generalize l[k]?.getD 0 = x at *
      by_cases hx : x < 0
      · by_cases hroom : (js.length : Int) + 1 ≤ d
        · gi_wp2_with fail
          refine ⟨trivial, ?_⟩
          have b0 : Below wr.heap.size wr (wr.alloc (.cells #[.int .i64 4, .int .i64 0, .int .i64 n, .int .i64 0, .int .i64 0, .int .i64 0, .int .i64 0, .bool false, .int .i64 0] 45)) := ext_alloc _ (Below.refl _ _)
          refine (callsIn_wide.2 (put_ok _ d v (js.map mkN) [mkN n] (some ⟨wr.heap.size, 0, none⟩) 1 _ (HLa.out.ext b0) (slN_at _ [mkN n] _ _ rfl _ rfl) (by rw [hlen.out]; omega) (by omega) h2 (by rw [hlen.out]; simpa using hroom) (by simp))).mono ?_
          rintro e w2 ⟨rfl, v2, hl2, ht2, hf2⟩
          have hbx2 := (HBx.out.ext b0).tch ht2 (.inr rfl) hf2
          have nc2 := cell_of hbx2.nx
          have nf2 := free_of hbx2.nx
          have nl2 := lt_of hbx2.nx
          have HBx2 := Lib.hid hbx2
          have HLa2 := Lib.hid hl2
          clear hl2 ht2 hf2 hbx2 b0
          gi_wp2_with fail
          gi_roundg (l.length - (k + 1))
          case measure => omega
          case rel =>
            refine ⟨k + 1, n + 1, by omega, by go_num, by omega, Lib.hid ⟨⟨v2, js ++ [n], ?_, ?_, ?_, ?_, ?_⟩⟩⟩
            · have := HLa2.out.setCell (a := ⟨w1.heap.size + 1, 0, none⟩) HBx2.out.pN (fun g hg => (HBx2.out.own g hg).2.2.1) (.int .i64 ((n : Int) + 1))
              simpa using this
            · have := (HBx2.out.setN ((n : Int) + 1)).of_eq (fun i => (sv_put js n HJ.out.2 i).symm)
              simpa using this
            · rw [List.pairwise_append]
              exact ⟨HJ.out.1, by simp, fun a ha b hb => by simp at hb; subst hb; exact HJ.out.2 a ha⟩
            · intro j hj
              rcases List.mem_append.1 hj with h | h
              · have := HJ.out.2 j h; omega
              · simp at h; omega
            · simpa using hroom
        · gi_wp2_with fail
          refine ⟨trivial, ?_⟩
          have b0 : Below wr.heap.size wr (wr.alloc (.cells #[.int .i64 4, .int .i64 0, .int .i64 n, .int .i64 0, .int .i64 0, .int .i64 0, .int .i64 0, .bool false, .int .i64 0] 45)) := ext_alloc _ (Below.refl _ _)
          refine (callsIn_wide.2 (put_full _ d v (js.map mkN) (some ⟨wr.heap.size, 0, none⟩) 1 1 _ (HLa.out.ext b0) (by rw [hlen.out]; omega) (by omega) h2 (by rw [hlen.out]; omega))).mono ?_
          rintro e w2 ⟨rfl, hb2⟩
          have HR2 := Lib.hid (HR.out.ext (ext_trans b0 hb2))
          have HRm := lroom_any _ d v (js.map mkN) w2 ((HLa.out.ext b0).ext hb2) (by rw [hlen.out]; omega) (by omega) h2
          rw [hlen.out, show d - (js.length : Int) = 0 by omega] at HRm
          have HRh := Lib.hid HRm
          clear hb2 b0 HRm
          gi_wp2_with fail
          refine ⟨trivial, ?_⟩
          refine (callsIn_wide.2 HRh.out).mono ?_
          rintro e w3 ⟨rfl, hb3⟩
          have HR3 := Lib.hid (HR2.out.ext hb3)
          clear hb3
          gi_wp2_with fail
          gi_roundg (l.length - (k + 1))
          case measure => omega
          case rel => exact ⟨k + 1, n, by omega, by go_num, by omega, HR3⟩
      · have ex : decide (x < 0) = false := by simp; omega
        by_cases hj0 : 0 < js.length
        · obtain ⟨t, ht⟩ : ∃ t, whichN x (js.map mkN).length = t := ⟨_, rfl⟩
          have hwt := whichN_of x (js.map mkN).length (by rw [hlen.out]; exact hj0)
          rw [ht] at hwt
          have HW := Lib.hid hwt
          have htl : t < js.length := by have := hwt.1; rw [hlen.out] at this; exact this
          clear hwt ht
          obtain ⟨m, hm⟩ : ∃ m, js[t] = m := ⟨_, rfl⟩
          have hmn : m < n := hm ▸ HJ.out.2 _ (List.getElem_mem htl)
          have hat : Hid (atN (js.map mkN) t = mkN m) := Lib.hid (by simp [atN, htl, hm])
          have hsv : Hid (sv js n m = 0) := Lib.hid (by unfold sv; rw [if_pos (hm ▸ List.getElem_mem htl)])
          have HM := Lib.hid hm
          clear hm
          gi_wp2_with fail
          refine ⟨trivial, ?_⟩
          have hto := take_ok _ d v (js.map mkN) x t wr HLa.out (by rw [hlen.out]; exact hjl') HW.out.1 HW.out.2
          rw [hat.out] at hto
          refine (callsIn_wide.2 hto).mono ?_
          clear hto
          rintro e w2 ⟨rfl, v2, hl2, ht2, hf2⟩
          have hbx2 := HBx.out.tch ht2 (.inl rfl) (fun g hg => .inr (hf2 g hg))
          have nc2 := cell_of hbx2.nx
          have nf2 := free_of hbx2.nx
          have nl2 := lt_of hbx2.nx
          have sc : w2.cell? ⟨w1.heap.size, m, none⟩ = some (.int .i64 0) := by rw [← hsv.out]; exact hbx2.seen.cell (by omega)
          have sf := hbx2.seen.free
          have sl := hbx2.seen.lt
          have HBx2 := Lib.hid hbx2
          have HLa2 := Lib.hid hl2
          have hq : ∀ wx, (binOp .neq 45 (mkN m).out (mkN m).out).run Try.prog wx = .ok (.bool false) wx := fun wx => by rw [neqN]; simp
          simp only [Nt.out, mkN] at hq
          simp only [Nt.val, mkN]
          have q1 : decide ((m : Int) < 0) = false := by simp
          have q2 : decide ((m : Int) ≥ (n : Int)) = false := by simp; omega
          have q3 : decide (n ≤ m) = false := by simp; omega
          clear hl2 ht2 hf2 hbx2
          gi_wp2_with fail
          gi_roundg (l.length - (k + 1))
          case measure => omega
          case rel =>
            refine ⟨k + 1, n, by omega, by go_num, by omega, Lib.hid ⟨⟨v2, js.eraseIdx t, ?_, ?_, ?_, ?_, ?_⟩⟩⟩
            · have := (HLa2.out.setCell (a := ⟨w1.heap.size, m, none⟩) HBx2.out.pS (fun g hg => (HBx2.out.own g hg).2.1) (.int .i64 1)).ext (ext_alloc (.cells #[.int .i64 4, .int .i64 0, .int .i64 m, .int .i64 0, .int .i64 0, .int .i64 0, .int .i64 0, .bool false, .int .i64 0] 45) (Below.refl _ _))
              rw [map_erase] at this
              exact this
            · refine ((HBx2.out.setS (j := m) (by omega) 1).ext (ext_alloc (.cells #[.int .i64 4, .int .i64 0, .int .i64 m, .int .i64 0, .int .i64 0, .int .i64 0, .int .i64 0, .bool false, .int .i64 0] 45) (Below.refl _ _))).of_eq (fun i => ?_)
              rw [sv_take js n t HJ.out.1 htl HJ.out.2 i, HM.out]
              by_cases him : i = m
              · rw [if_pos him, if_pos him, him, hsv.out]; rfl
              · rw [if_neg him, if_neg him]
            · exact HJ.out.1.sublist (List.eraseIdx_sublist _ _)
            · exact fun j hj => HJ.out.2 j (List.mem_of_mem_eraseIdx hj)
            · have := List.length_eraseIdx_le js t; omega
        · have hjs : js = [] := List.eq_nil_of_length_eq_zero (by omega)
          subst hjs
          gi_wp2_with fail
          refine ⟨trivial, ?_⟩
          refine (callsIn_wide.2 (take_none _ d v x _ HLa.out)).mono ?_
          rintro e w2 ⟨rfl, hb2⟩
          have b0 : Below w2.heap.size w2 (w2.alloc (.cells #[.int .i64 0, .int .i64 0, .int .i64 0, .int .i64 0, .int .i64 0, .int .i64 0, .int .i64 0, .bool false, .int .i64 0] 45)) := ext_alloc _ (Below.refl _ _)
          have HR2 := Lib.hid (HR.out.ext (ext_trans hb2 b0))
          have HLa2 := Lib.hid ((HLa.out.ext hb2).ext b0)
          simp only [Nt.val, Nt.zero]
          clear hb2 b0
          gi_wp2_with fail
          refine ⟨trivial, ?_⟩
          refine (callsIn_wide.2 (llen_any _ d v [] _ HLa2.out)).mono ?_
          rintro e w3 ⟨rfl, hw⟩
          have HR3 : Hid (On4 w w3 (w.heap.size + 1) w1.heap.size (w1.heap.size + 1) w.heap.size d n) := Lib.hid (by rw [hw]; exact HR2.out)
          clear hw
          gi_wp2_with fail
          gi_roundg (l.length - (k + 1))
          case measure => omega
          case rel => exact ⟨k + 1, n, by omega, by go_num, by omega, HR3⟩
    · have ek : decide ((k : Int) < (l.length : Int)) = false := by simp; omega
      obtain ⟨v, js, hla, hbx, hsrt, hjn, hjl⟩ := HR.out.it
      have HLa := Lib.hid hla
      have HBx := Lib.hid hbx
      have HJ := Lib.hid (And.intro hsrt hjn)
      have hlen : Hid ((js.map mkN).length = js.length) := Lib.hid (by simp)
      clear hla hbx hsrt hjn HR
      gi_wp2_with fail
      refine ⟨trivial, ?_⟩
      refine (callsIn_wide.2 (allN_any _ d v (js.map mkN) _ HLa.out (by rw [hlen.out]; omega))).mono ?_
      rintro e w2 ⟨b, vv, rfl, hN, hbb, hvv, hb2⟩
      have HN := Lib.hid hN
      have HLa2 := Lib.hid (HLa.out.ext hb2)
      have HBx2 := Lib.hid (HBx.out.ext hb2)
      have HV := Lib.hid hvv
      have hs2 := hb2.size
      clear hN hb2 hvv
      have hq := iseq_nil
      gi_wp2_with fail
      clear hq
      obtain ⟨W0, hW0⟩ : ∃ W0, W0 = w2.alloc (.cells #[.int .i64 (-1)] 3) := ⟨_, rfl⟩
      rw [← hW0]
      have b0 : Below w2.heap.size w2 W0 := by rw [hW0]; exact ext_alloc _ (Below.refl _ _)
      have HN0 := HN.out.ext b0
      have HLa0 := HLa2.out.ext b0
      have HBx0 := HBx2.out.ext b0
      have hls : W0.heap[w2.heap.size]? = some (.cells #[.int .i64 (-1)] 3 (0, 0)) := by rw [hW0]; exact alNew rfl
      have hs0 : W0.heap.size = w2.heap.size + 1 := by rw [hW0]; simp
      clear hW0
      have hnl := HN.out.lt
      have hvl : ∀ g, vv.ownBlock = some g → g < w2.heap.size := fun g hg => (HN.out.own.lt g hg).2
      have hsr := HBx.out.below.size
      refine wpIn_rangeFunc_box (w2.heap.size + 1) 15 BxN (fun x b W W' row h hg hr => blk_held h hg hr) hro (by omega) (gf := 52) (lb := #[.pointer (some ⟨b, 0, none⟩)]) rfl trivial (enters_of Try.func52 (by kernel_rfl) rfl)
        (valuesN_stops (6 - 1) (by omega) b vv (js.map mkN) W0 HN0 (by rw [hlen.out]; omega)) (fun h k => h.trans k) (fun W l o o' hl ho hc hw => ?kp) (Below.refl _ _) (fun _ => rfl)
        (fun pre W => ∃ (lst : Int) (s : Nat → Int), Bx4 w W (w.heap.size + 1) w1.heap.size (w1.heap.size + 1) w.heap.size v s n ∧ La W (w.heap.size + 1) d v (js.map mkN) ∧ W.heap[w2.heap.size]? = some (.cells #[.int .i64 lst] 3 (0, 0)) ∧ -1 ≤ lst ∧ (∀ i, 0 ≤ s i ∧ s i ≤ 1 + pre.length) ∧ Hid (pre <+: js.map mkN → (∀ i, s i = sv (js.drop pre.length) n i) ∧ ∀ j ∈ js.drop pre.length, lst < j) ∧ W0.heap.size ≤ W.heap.size)
        (fun cc pre _ => cc = .ret ∧ ¬ pre <+: js.map mkN) ?hI (fun _ _ _ _ _ hs _ _ => hs) ?h0 ?assign ?body ?done ?stop
      case kp => exact ⟨World.putObj_heap_other (by omega), fun g hg => World.putObj_heap_other (by have := hvl g hg; omega)⟩
      case hI =>
        rintro pre W W' row ⟨lst, s, hb, hla, hlc, hm1, hsb, hp, hsz⟩ hg hr
        exact ⟨lst, s, hb.held hg (fun r e => ⟨by have := (hr r e).1; omega, (hr r e).2⟩), hla.held hg (fun r e => (hr r e).2), blk_held hlc hg (fun r e => (hr r e).2), hm1, hsb, hp, Nat.le_trans hsz hg.size⟩
      case h0 => exact ⟨-1, sv js n, HBx0, HLa0, hls, by omega, fun i => by have := sv_bd js n i; simp; omega, Lib.hid (fun _ => ⟨fun i => rfl, fun j _ => by omega⟩), Nat.le_refl _⟩
      case assign =>
        rintro lr pre x W K ⟨lst, s, hb, hla, hlc, hm1, hsb, hp, hsz⟩ hK
        gi_wp2
        have hk := hK W.heap.size (W.alloc (.cells #[.int .i64 x.k, .int .i64 x.c, .int .i64 x.l, .int .i64 x.w, .int .i64 x.s, .int .i64 x.a, .int .i64 x.b, .bool x.d, .int .i64 x.n] 45)) (by omega) ((KeepsOthers.alloc _ _).from _) ⟨(Below.heap_alloc _ _ _ (by omega)), fun g hg => (Below.heap_alloc _ _ _ (by have := hvl g hg; omega))⟩ ⟨lst, s, hb.ext (ext_alloc _ (Below.refl _ _)), hla.ext (ext_alloc _ (Below.refl _ _)), alOld hlc, hm1, hsb, hp, by simp; omega⟩ (alNew rfl)
        unfold boxFrame at hk
        simpa using hk
      case body =>
        rintro lr pre x bx W hl' hr' ⟨lst, s, hb, hla, hlc, hm1, hsb, hp, hsz⟩ hbx bX hlen'
        rw [hlen.out] at hlen'
        have kl := cell_of hlc
        have fl := free_of hlc
        have kn := cell_of hb.nx
        have kr := cell_of hb.rs
        have fr := free_of hb.rs
        have rl := lt_of hb.rs
        have ll := lt_of hlc
        have nl := lt_of hb.nx
        have sl := hb.seen.lt
        have sf := hb.seen.free
        have HS := Lib.hid hb
        have HLw := Lib.hid hla
        have HSB := Lib.hid hsb
        have HOnly : Hid (pre ++ [x] <+: js.map mkN → pre <+: js.map mkN ∧ ∃ hl : pre.length < js.length, x = mkN js[pre.length] ∧ js.drop pre.length = js[pre.length] :: js.drop (pre.length + 1)) := Lib.hid mk_only
        obtain ⟨xk, xc, xl, xw, xs, xa, xb, xd, xn⟩ := x
        obtain ⟨p0, p1, p2, p3, p4, p5, p6, p7, p8⟩ := bX.cell
        have bxl := bX.lt
        clear hla
        unfold boxFrame
        by_cases c1 : xl ≤ lst
        · gi_wp2_with fail
          refine ⟨(KeepsOthers.setCell _ _ _).from _, rfl, fun h => ?_⟩
          obtain ⟨h1, h2, h3, h4⟩ := HOnly.out h
          have h5 := (hp.out h1).2 js[pre.length] (by rw [h4]; exact List.mem_cons_self)
          simp only [mkN, Nt.mk.injEq] at h3
          omega
        · by_cases c2 : (n : Int) ≤ xl
          · have d1 : decide (xl ≤ lst) = false := by simp; omega
            gi_wp2_with fail
            refine ⟨(KeepsOthers.setCell _ _ _).from _, rfl, fun h => ?_⟩
            obtain ⟨h1, h2, h3, h4⟩ := HOnly.out h
            have h5 := HJ.out.2 js[pre.length] (List.getElem_mem h2)
            simp only [mkN, Nt.mk.injEq] at h3
            omega
          · have hx0 : 0 ≤ xl := by omega
            obtain ⟨m, rfl⟩ := Int.eq_ofNat_of_zero_le hx0
            have d1 : decide ((m : Int) ≤ lst) = false := by simp; omega
            have d2 : decide ((m : Int) ≥ (n : Int)) = false := by simp; omega
            have d3 : decide (n ≤ m) = false := by simp; omega
            have hm200 : m < 200 := by omega
            have sc := hb.seen.cell hm200
            have hsm := hsb m
            have hmS : w2.heap.size ≠ w1.heap.size := by have := HBx.out.seen.lt; omega
            clear hsb hb
            gi_wp2_with fail
            have hbN := HN.out.own
            have hxS : w1.heap.size < w2.heap.size := by have := HBx.out.seen.lt; omega
            have hbS : b ≠ w1.heap.size := by have := HBx.out.seen.lt; omega
            have hvS : ∀ g, vv.ownBlock = some g → g ≠ w1.heap.size := fun g hg => by have := HBx.out.seen.lt; have := HV.out g hg; omega
            have hkk : ∀ q, q ≠ w2.heap.size → q ≠ w1.heap.size → ((W.setCell ⟨w2.heap.size, 0, none⟩ (.int .i64 m)).setCell ⟨w1.heap.size, m, none⟩ (.int .i64 (s m + 1))).heap[q]? = W.heap[q]? := fun q h1 h2 => (Below.heap_setCell _ _ _ _ (by simpa using h2)).trans (Below.heap_setCell _ _ _ _ (by simpa using h1))
            have hvo : ∀ g, v.ownBlock = some g → g < wr.heap.size := fun g hg => (HLa.out.own.lt g hg).2
            have hb1 : Bx4 w (W.setCell ⟨w2.heap.size, 0, none⟩ (.int .i64 m)) (w.heap.size + 1) w1.heap.size (w1.heap.size + 1) w.heap.size v s n := by
              have h := HS.out
              have hN1 := lt_of HBx.out.nx
              have hR1 := lt_of HBx.out.rs
              exact ⟨h.seen.keep (Below.heap_setCell _ _ _ _ (by simp; omega)), (Below.heap_setCell _ _ _ _ (by simp; omega)).trans h.nx, (Below.heap_setCell _ _ _ _ (by simp; omega)).trans h.rs, h.below.setCell (p := ⟨w2.heap.size, 0, none⟩) (by simp; omega) _, h.hp, h.hS, h.hN, h.hR, h.pS, h.pN, h.pR, h.SN, h.SR, h.NR, h.own⟩
            refine ⟨((KeepsOthers.setCell _ _ _).trans (KeepsOthers.setCell _ _ _)).from _, ⟨hkk b (by omega) hbS, fun g hg => hkk g (by have := hvl g hg; omega) (hvS g hg)⟩, m, _, hb1.setS hm200 (s m + 1), ?_, (Below.heap_setCell _ _ _ _ (by simp; omega)).trans (set_of hlc), by omega, fun i => ?_, Lib.hid (fun h => ?_), by simp; omega⟩
            · have hpw := HLa.out.lt
              exact (HLw.out.setCell (a := ⟨w2.heap.size, 0, none⟩) (by simp; omega) (fun g hg => by have := hvo g hg; simp; omega) _).setCell (a := ⟨w1.heap.size, m, none⟩) (by simp; omega) (fun g hg => (HS.out.own g hg).2.1) _
            · have h1 := HSB.out i
              have h2 := HSB.out m
              show 0 ≤ (if i = m then s m + 1 else s i) ∧ (if i = m then s m + 1 else s i) ≤ 1 + ((pre ++ [_]).length : Int)
              rw [List.length_append]
              split <;> simp <;> omega
            · obtain ⟨h1, h2, h3, h4⟩ := HOnly.out h
              have h5 := hp.out h1
              simp only [mkN, Nt.mk.injEq] at h3
              have hmj : m = js[pre.length] := by omega
              have hl1 : (pre ++ [(⟨xk, xc, (m : Int), xw, xs, xa, xb, xd, xn⟩ : Nt)]).length = pre.length + 1 := by simp
              rw [hl1]
              refine ⟨fun i => ?_, fun j hj => ?_⟩
              · have := sv_next js n pre.length h2 HJ.out.1 HJ.out.2 s h5.1 i
                rw [← hmj] at this
                exact this
              · have := HJ.out.1.sublist (List.drop_sublist pre.length js)
                rw [h4] at this
                have := (List.pairwise_cons.1 this).1 j hj
                omega
      case done =>
        rintro D ys W hD rfl ⟨lst, s, hb, hla, hlc, hm1, hsb, hp, hsz⟩ hK
        have hs1 : Hid (∀ i, i < n → s i = 1) := Lib.hid (fun i hi => by
          have := (hp.out (List.prefix_refl _)).1 i
          rw [this, hlen.out, List.drop_length]
          simp [sv, hi])
        have kn := cell_of hb.nx
        have kr := cell_of hb.rs
        have fr := free_of hb.rs
        have rl := lt_of hb.rs
        have nl := lt_of hb.nx
        have sl := hb.seen.lt
        have HS := Lib.hid hb
        have HLw := Lib.hid hla
        clear hb hla hsb hp
        gi_wp2_with fail
        gi_loopg [16] n (fun g16 s16 wz => ∃ i : Nat, i + g16 = n ∧ s16 = .int .i64 i ∧ wz = W)
        case atStart => exact ⟨0, by omega, rfl, rfl⟩
        case round =>
          obtain ⟨i, hi, rfl, rfl⟩ := hrel
          by_cases hin : i < n
          · have sc := HS.out.seen.cell (i := i) (by omega)
            rw [hs1.out i hin] at sc
            have ei : decide ((i : Int) < (n : Int)) = true := by simp; omega
            gi_wp2_with fail
            gi_roundg (n - (i + 1))
            case measure => omega
            case rel => exact ⟨i + 1, by omega, by go_num, rfl⟩
          · have ei : decide ((i : Int) < (n : Int)) = false := by simp; omega
            gi_wp2_with fail
            refine ⟨trivial, ?_⟩
            refine (callsIn_wide.2 (llen_any _ d v _ _ HLw.out)).mono ?_
            rintro e w3 ⟨rfl, hw⟩
            subst hw
            rw [hlen.out]
            gi_wp2_with fail
            refine ⟨trivial, ?_⟩
            have HRm := lroom_any _ d v (js.map mkN) w3 HLw.out (by rw [hlen.out]; omega) (by omega) h2
            rw [hlen.out] at HRm
            refine (callsIn_wide.2 HRm).mono ?_
            clear HRm
            rintro e w4 ⟨rfl, hb4⟩
            have HS4 := Lib.hid (HS.out.ext hb4)
            have hK4 : Hid (w4.heap[D]? = some (.deferred (some []))) := Lib.hid ((hb4.block D (lt_of hK)).trans hK)
            have esum : (js.length : Int) + (d - js.length) = d := by omega
            clear hb4
            gi_wp2_with fail
            refine ⟨trivial, ?_⟩
            refine (callsIn_wide.2 (awake04 _)).mono ?_
            rintro e w5 ⟨rfl, hb5⟩
            have hS5 := HS4.out.ext hb5
            have kr5 := cell_of hS5.rs
            have fr5 := free_of hS5.rs
            have rl5 := lt_of hS5.rs
            have hK5 := (hb5.block D (lt_of hK4.out)).trans hK4.out
            have HB5 := Lib.hid hS5.below
            clear hS5 hb5
            gi_wp2_with fail
            have hK' := (KeepsOthers.setCell w5 ⟨w.heap.size, 0, none⟩ (.bool true)).same D _ hK5 rfl
            refine ⟨by simp, .inl ⟨_, _, rfl, run_takeDeferred hK', ?_⟩⟩
            have hc5 := cell_kept (World.cell?_setCell_same' w5 ⟨w.heap.size, 0, none⟩ (.bool true) (by rw [kr5]; rfl)) (grownBy_putObj' _ D (.deferred none)) (fun r e => by cases e; exact ⟨_, hK', rfl⟩)
            refine ⟨.bool true, ?_, rfl, (HB5.out.setCell (p := ⟨w.heap.size, 0, none⟩) (Nat.le_refl _) _).trans (belowK_b (w := w) (Nat.le_refl _) _ D _ _ (by omega) hK' rfl rfl)⟩
            simp [results, Try.f5, go_sem, hc5]
      case stop =>
        rintro D cc pre W hD hpre ⟨rfl, hb⟩ hK
        exact absurd hpre hb

theorem once_walk (d : Int) (A : Option Addr) (cap : Nat) (l : List Int) (w : World) (h : SlI w A l) :
    Calls Try.prog 5 #[.int .i64 d, .slice A l.length cap] w fun e w' => e = .returned (.bool true) ∧ Below w.heap.size w w' := by
  by_cases hd : d < 1 ∨ 16 < d ∨ 200 < l.length
  · exact once_out d A _ cap w hd
  · exact once_in d A cap l w h (by omega) (by omega) (by omega)

end Go.Proofs.Ytnablldaaajhkaa
