/- What this text holds: a lane's copy (as in LanR, which this seat has not). No condition. What this text holds: a fabric's copy. No condition. -/
import Derived.Test.YtkfnjpmigifomaaDoorLanW
import Derived.Test.YtkfnjpmigifomaaDoorApp
import Derived.Test.YtkfnjpmigifomaaDoorRfA
import Derived.Test.YtkfnjpmigifomaaDoorFbW
import Derived.Deep.RegionHeld3
import Derived.BigRegion
namespace Go.Proofs.YtkfnjpmigifomaaDoor
open Go.RowKit

theorem La.none0 {w : World} {p : Nat} {d : Int} {A : Option Addr} {m cap : Nat} {xs : List Nt} (h : La w p d (.slice A m cap) xs) : A = none → cap = 0 := fun e => by
  rcases h.own.2 with ⟨hv, _⟩ | ⟨g, k, cur, hv, _⟩
  · exact (Value.slice.inj hv).2.2
  · subst e; cases (Value.slice.inj hv).1
theorem undrew {w w' : World} (h : Below w.drew.heap.size w.drew w') : Below w.heap.size w w' := ⟨h.os, h.tape, h.output, h.size, h.block⟩

set_option maxRecDepth 100000 in
set_option maxHeartbeats 2000000 in
theorem lcopy_any (p : Nat) (d : Int) (v : Value) (xs : List Nt) (w : World) (h : La w p d v xs) (hn : xs.length ≤ 1000) : Calls Tryd.prog 82 #[.pointer (some ⟨p, 0, none⟩)] w fun e w' =>
    ∃ q v', e = .returned (.pointer (some ⟨q, 0, none⟩)) ∧ La w' q d v' xs ∧ w.heap.size ≤ q ∧ (∀ g, v'.ownBlock = some g → w.heap.size ≤ g) ∧ Below w.heap.size w w' := by
  obtain ⟨A, cap, rfl, hsl, _⟩ := h.val
  have hc0 := Lib.hid h.none0
  have HS := Lib.hid hsl
  have c0 := h.c0
  have c1 := h.c1
  have hl := h.lt
  clear h hsl
  go_enter Tryd.func82, Tryd.ntmps82
  go_wp2_with fail
  have QQ := And.intro c0 c1
  go_region_held3 (fun w' => w'.cell? ⟨p, 0, none⟩ = some (.int .i64 d) ∧ w'.cell? ⟨p, 1, none⟩ = some (.slice A xs.length cap))
    (first | exact QQ | exact ⟨(((Below.refl _ _).alloc (Nat.le_refl _) _).cell (p := ⟨p, 0, none⟩) hl1).trans QQ.1, (((Below.refl _ _).alloc (Nat.le_refl _) _).cell (p := ⟨p, 1, none⟩) hl1).trans QQ.2⟩)
    (first
      | (go_at_call 101; refine (cloneN_any A cap xs _ (HS.out.ext (ext_drew (Below.refl _ _))) hc0.out hn).mono ?_; rintro e w1 ⟨v', rfl, ho, hb⟩; have HO := Lib.hid ho; have HB := Lib.hid (undrew hb); have QQ := And.intro ((HB.out.cell (p := ⟨p, 0, none⟩) hl).trans c0) ((HB.out.cell (p := ⟨p, 1, none⟩) hl).trans c1); have hl1 : p < w1.heap.size := Nat.lt_of_lt_of_le hl HB.out.size; obtain ⟨A2, l2, k2, rfl⟩ := owns_slice ho; clear ho hb))
  go_wp2_with fail
  go_ret
  have hs := HB.out.size
  have bn := (Below.refl w1.heap.size w1).alloc (Nat.le_refl _) (.cells #[.int .i64 d, .slice A2 l2 k2] 157)
  refine ⟨w1.heap.size, _, rfl, ⟨by simp, by simp [World.cell?_alloc_at], by simp [World.cell?_alloc_at], fun i => by simp [World.frozen?_alloc_at], row_keep (row_mono HO.out (Nat.zero_le _)) (fun g hg => bn.block g (HO.out.lt g hg).2), fun e => by have := (HO.out.lt _ e).2; omega⟩, hs, fun g hg => (HO.out.lt g hg).1, HB.out.alloc hs _⟩

end Go.Proofs.YtkfnjpmigifomaaDoor
namespace Go.Proofs.YtkfnjpmigifomaaDoor
open Go.RowKit

/-- A copy that is being made: r lanes are there. -/
structure Fc (w W : World) (q : Nat) (c : Cfg) (r : Nat) (P : Nat → Nat) (V : Nat → Value) (G : Nat → List Nt) : Prop where
  be : Below w.heap.size w W
  box : W.heap[q]? = some (.cells #[.int .i64 c.co, .int .i64 c.gr, .int .i64 c.se, .int .i64 c.wa, .int .i64 c.de, .int .i64 c.en, .int .i64 c.ba, ptrI r P 0, ptrI r P 1, ptrI r P 2, ptrI r P 3, ptrI r P 4, ptrI r P 5, ptrI r P 6, ptrI r P 7, ptrI r P 8, ptrI r P 9, ptrI r P 10, ptrI r P 11, ptrI r P 12, ptrI r P 13, ptrI r P 14, ptrI r P 15] 128 (0, 0))
  la : ∀ i, i < r → La W (P i) c.de (V i) (G i)
  lo : w.heap.size ≤ q ∧ ∀ i, i < r → q < P i ∧ ∀ g, (V i).ownBlock = some g → q < g
  df : ∀ i j, i < r → j < r → i ≠ j → P i ≠ P j ∧ (V i).ownBlock ≠ some (P j) ∧ ∀ g, (V i).ownBlock = some g → (V j).ownBlock ≠ some g
section
variable {w W W1 : World} {q : Nat} {c : Cfg} {r : Nat} {P : Nat → Nat} {V : Nat → Value} {G : Nat → List Nt}
theorem Fc.ext (h : Fc w W q c r P V G) (hb : Below W.heap.size W W1) : Fc w W1 q c r P V G :=
  ⟨ext_trans h.be hb, (hb.block _ (lt_of h.box)).trans h.box, fun i hi => (h.la i hi).ext hb, h.lo, h.df⟩
theorem Fc.cell (h : Fc w W q c r P V G) {i k : Nat} (hm : r ≤ i * 4 + k) (hk : k < 4) (hi : i < 4) : W.cell? ⟨q, 7 + i * 4 + k, none⟩ = some (.pointer none) := by
  have hp : ptrI r P (i * 4 + k) = .pointer none := by unfold ptrI; rw [if_neg (by omega)]
  rw [← hp]
  have hc : i = 0 ∨ i = 1 ∨ i = 2 ∨ i = 3 := by omega
  have hd : k = 0 ∨ k = 1 ∨ k = 2 ∨ k = 3 := by omega
  rcases hc with rfl | rfl | rfl | rfl <;> rcases hd with rfl | rfl | rfl | rfl <;> simp [World.cell?, h.box]
theorem Fc.free (h : Fc w W q c r P V G) (i : Nat) : W.frozen? ⟨q, i, none⟩ = false := by simp [World.frozen?, h.box]
theorem Fc.keep (h : Fc w W q c r P V G) (j : Nat) (u : Value) (hx : (W.setCell ⟨q, j, none⟩ u).heap[q]? = W.heap[q]?) : Fc w (W.setCell ⟨q, j, none⟩ u) q c r P V G := by
  have ho : ∀ k, k ≠ q → (W.setCell ⟨q, j, none⟩ u).heap[k]? = W.heap[k]? := fun k hk => Below.heap_setCell _ _ _ _ (by simpa using hk)
  refine ⟨h.be.setCell (p := ⟨q, j, none⟩) h.lo.1 _, hx.trans h.box, fun i hi => (h.la i hi).of_blocks (by simp) (ho _ (by have := (h.lo.2 i hi).1; omega)) (fun g hg => ho _ (by have := (h.lo.2 i hi).2 g hg; omega)), h.lo, h.df⟩
set_option maxHeartbeats 4000000 in
theorem Fc.skip (h : Fc w W q c r P V G) {i k : Nat} (hm : r ≤ i * 4 + k) (hk : k < 4) (hi : i < 4) : Fc w (W.setCell ⟨q, 7 + i * 4 + k, none⟩ (.pointer none)) q c r P V G := by
  refine h.keep _ _ ?_
  rw [Joins.block_setCell (i := 7 + i * 4 + k) h.box (.pointer none), h.box]
  have hp : ptrI r P (i * 4 + k) = .pointer none := by unfold ptrI; rw [if_neg (by omega)]
  rw [← hp]
  have hc : i = 0 ∨ i = 1 ∨ i = 2 ∨ i = 3 := by omega
  have hd : k = 0 ∨ k = 1 ∨ k = 2 ∨ k = 3 := by omega
  rcases hc with rfl | rfl | rfl | rfl <;> rcases hd with rfl | rfl | rfl | rfl <;> simp
set_option maxHeartbeats 4000000 in
theorem Fc.put (h : Fc w W q c r P V G) {i k a : Nat} {v : Value} (hm : r = i * 4 + k) (hk : k < 4) (hi : i < 4) (hl : La W1 a c.de v (G r)) (hb : Below W.heap.size W W1) (ha : W.heap.size ≤ a) (hv : ∀ g, v.ownBlock = some g → W.heap.size ≤ g) :
    Fc w (W1.setCell ⟨q, 7 + i * 4 + k, none⟩ (.pointer (some ⟨a, 0, none⟩))) q c (r + 1) (upF P r a) (upF V r v) G := by
  have h1 := h.ext hb
  have hql := lt_of h.box
  have hlo := h.lo
  have ho : ∀ k', k' ≠ q → (W1.setCell ⟨q, 7 + i * 4 + k, none⟩ (.pointer (some ⟨a, 0, none⟩))).heap[k']? = W1.heap[k']? := fun k' hk => Below.heap_setCell _ _ _ _ (by simpa using hk)
  have old : ∀ j, j < r → P j < W.heap.size ∧ ∀ g, (V j).ownBlock = some g → g < W.heap.size := fun j hj => ⟨(h.la j hj).lt, fun g hg => ((h.la j hj).own.lt g hg).2⟩
  refine ⟨h1.be.setCell (p := ⟨q, 7 + i * 4 + k, none⟩) hlo.1 _, ?_, fun j hj => ?_, ⟨hlo.1, fun j hj => ?_⟩, fun x y hx hy hxy => ?_⟩
  · have hs := Joins.block_setCell (i := 7 + i * 4 + k) h1.box (.pointer (some ⟨a, 0, none⟩))
    rw [hs]
    subst hm
    have hc : i = 0 ∨ i = 1 ∨ i = 2 ∨ i = 3 := by omega
    have hd : k = 0 ∨ k = 1 ∨ k = 2 ∨ k = 3 := by omega
    rcases hc with rfl | rfl | rfl | rfl <;> rcases hd with rfl | rfl | rfl | rfl <;> simp [ptrI_next]
  · by_cases e : j = r
    · subst e
      rw [upF_same, upF_same]
      exact hl.of_blocks (by simp) (ho _ (by omega)) (fun g hg => ho _ (by have := hv g hg; omega))
    · rw [upF_ne _ _ e, upF_ne _ _ e]
      have hj' : j < r := by omega
      exact (h1.la j hj').of_blocks (by simp) (ho _ (by have := (hlo.2 j hj').1; omega)) (fun g hg => ho _ (by have := (hlo.2 j hj').2 g hg; omega))
  · by_cases e : j = r
    · subst e; rw [upF_same, upF_same]; exact ⟨by omega, fun g hg => by have := hv g hg; omega⟩
    · rw [upF_ne _ _ e, upF_ne _ _ e]; exact hlo.2 j (by omega)
  · by_cases ex : x = r
    · subst ex
      have ey : y ≠ x := Ne.symm hxy
      have hy' : y < x := by omega
      rw [upF_same, upF_same, upF_ne _ _ ey, upF_ne _ _ ey]
      refine ⟨by have := (old y hy').1; omega, fun e => by have := hv _ e; have := (old y hy').1; omega, fun g hg e => by have := hv _ hg; have := (old y hy').2 g e; omega⟩
    · have hx' : x < r := by omega
      rw [upF_ne _ _ ex, upF_ne _ _ ex]
      by_cases ey : y = r
      · subst ey
        rw [upF_same, upF_same]
        exact ⟨by have := (old x hx').1; omega, fun e => by have := (old x hx').2 _ e; omega, fun g hg e => by have := hv _ e; have := (old x hx').2 g hg; omega⟩
      · rw [upF_ne _ _ ey, upF_ne _ _ ey]; exact h.df x y hx' (by omega) hxy
theorem Fc.fa (h : Fc w W q c r P V G) (hok : c.ok) (hn : (r : Int) = 4 * c.co) (hf : ∀ i, i < r → ((G i).length : Int) ≤ c.de) : Fa W w.heap.size q c r P V G :=
  ⟨hok, hn, h.box, h.la, ⟨h.lo.1, fun i hi => ⟨by have := h.lo.1; have := (h.lo.2 i hi).1; omega, fun g hg => by have := h.lo.1; have := (h.lo.2 i hi).2 g hg; omega⟩⟩, fun i hi => ⟨by have := (h.lo.2 i hi).1; omega, fun e => by have := (h.lo.2 i hi).2 _ e; omega⟩, h.df, hf⟩
end
theorem ir0 (a0 a1 a2 a3 a4 a5 a6 a7 a8 a9 a10 a11 a12 a13 a14 a15 : Value) (w : World) : (Instr.index 126 (.agg #[a0, a1, a2, a3, a4, a5, a6, a7, a8, a9, a10, a11, a12, a13, a14, a15]) (.int .i64 0)).run Tryd.prog w = .ok (.agg #[a0, a1, a2, a3]) w := by kernel_rfl
theorem ir1 (a0 a1 a2 a3 a4 a5 a6 a7 a8 a9 a10 a11 a12 a13 a14 a15 : Value) (w : World) : (Instr.index 126 (.agg #[a0, a1, a2, a3, a4, a5, a6, a7, a8, a9, a10, a11, a12, a13, a14, a15]) (.int .i64 1)).run Tryd.prog w = .ok (.agg #[a4, a5, a6, a7]) w := by kernel_rfl
theorem ir2 (a0 a1 a2 a3 a4 a5 a6 a7 a8 a9 a10 a11 a12 a13 a14 a15 : Value) (w : World) : (Instr.index 126 (.agg #[a0, a1, a2, a3, a4, a5, a6, a7, a8, a9, a10, a11, a12, a13, a14, a15]) (.int .i64 2)).run Tryd.prog w = .ok (.agg #[a8, a9, a10, a11]) w := by kernel_rfl
theorem ir3 (a0 a1 a2 a3 a4 a5 a6 a7 a8 a9 a10 a11 a12 a13 a14 a15 : Value) (w : World) : (Instr.index 126 (.agg #[a0, a1, a2, a3, a4, a5, a6, a7, a8, a9, a10, a11, a12, a13, a14, a15]) (.int .i64 3)).run Tryd.prog w = .ok (.agg #[a12, a13, a14, a15]) w := by kernel_rfl
theorem io0 (a0 a1 a2 a3 : Value) (w : World) : (Instr.index 125 (.agg #[a0, a1, a2, a3]) (.int .i64 0)).run Tryd.prog w = .ok a0 w := by kernel_rfl
theorem io1 (a0 a1 a2 a3 : Value) (w : World) : (Instr.index 125 (.agg #[a0, a1, a2, a3]) (.int .i64 1)).run Tryd.prog w = .ok a1 w := by kernel_rfl
theorem io2 (a0 a1 a2 a3 : Value) (w : World) : (Instr.index 125 (.agg #[a0, a1, a2, a3]) (.int .i64 2)).run Tryd.prog w = .ok a2 w := by kernel_rfl
theorem io3 (a0 a1 a2 a3 : Value) (w : World) : (Instr.index 125 (.agg #[a0, a1, a2, a3]) (.int .i64 3)).run Tryd.prog w = .ok a3 w := by kernel_rfl
theorem idx_row (r : Nat → Option Addr) (i : Nat) (hi : i < 4) (w : World) : (Instr.index 126 (.agg #[.pointer (r 0), .pointer (r 1), .pointer (r 2), .pointer (r 3), .pointer (r 4), .pointer (r 5), .pointer (r 6), .pointer (r 7), .pointer (r 8), .pointer (r 9), .pointer (r 10), .pointer (r 11), .pointer (r 12), .pointer (r 13), .pointer (r 14), .pointer (r 15)]) (.int .i64 i)).run Tryd.prog w = .ok (.agg #[.pointer (r (i * 4)), .pointer (r (i * 4 + 1)), .pointer (r (i * 4 + 2)), .pointer (r (i * 4 + 3))]) w := by
  have hc : i = 0 ∨ i = 1 ∨ i = 2 ∨ i = 3 := by omega
  rcases hc with rfl | rfl | rfl | rfl
  · exact ir0 _ _ _ _ _ _ _ _ _ _ _ _ _ _ _ _ _
  · exact ir1 _ _ _ _ _ _ _ _ _ _ _ _ _ _ _ _ _
  · exact ir2 _ _ _ _ _ _ _ _ _ _ _ _ _ _ _ _ _
  · exact ir3 _ _ _ _ _ _ _ _ _ _ _ _ _ _ _ _ _
theorem idx_one (r : Nat → Option Addr) (m k : Nat) (hk : k < 4) (w : World) : (Instr.index 125 (.agg #[.pointer (r m), .pointer (r (m + 1)), .pointer (r (m + 2)), .pointer (r (m + 3))]) (.int .i64 k)).run Tryd.prog w = .ok (.pointer (r (m + k))) w := by
  have hc : k = 0 ∨ k = 1 ∨ k = 2 ∨ k = 3 := by omega
  rcases hc with rfl | rfl | rfl | rfl
  · exact io0 _ _ _ _ _
  · exact io1 _ _ _ _ _
  · exact io2 _ _ _ _ _
  · exact io3 _ _ _ _ _
theorem lcopy_nil (w : World) : Calls Tryd.prog 82 #[.pointer none] w fun e w' => e = .returned (.pointer none) ∧ w' = w := by
  go_enter Tryd.func82, Tryd.ntmps82
  go_wp2
  go_ret
  exact ⟨rfl, rfl⟩
section
variable {w : World} {B p : Nat} {c : Cfg} {n : Nat} {P : Nat → Nat} {V : Nat → Value} {G : Nat → List Nt}
theorem Fa.cells (h : Fa w B p c n P V G) : w.cell? ⟨p, 0, none⟩ = some (.int .i64 c.co) ∧ w.cell? ⟨p, 1, none⟩ = some (.int .i64 c.gr) ∧ w.cell? ⟨p, 2, none⟩ = some (.int .i64 c.se) ∧ w.cell? ⟨p, 3, none⟩ = some (.int .i64 c.wa) ∧ w.cell? ⟨p, 4, none⟩ = some (.int .i64 c.de) ∧ w.cell? ⟨p, 5, none⟩ = some (.int .i64 c.en) ∧ w.cell? ⟨p, 6, none⟩ = some (.int .i64 c.ba) := by
  simp [World.cell?, h.box]
theorem Fa.ptrs (h : Fa w B p c n P V G) : w.cell? ⟨p, 7, none⟩ = some (ptrI n P 0) ∧ w.cell? ⟨p, 8, none⟩ = some (ptrI n P 1) ∧ w.cell? ⟨p, 9, none⟩ = some (ptrI n P 2) ∧ w.cell? ⟨p, 10, none⟩ = some (ptrI n P 3) ∧ w.cell? ⟨p, 11, none⟩ = some (ptrI n P 4) ∧ w.cell? ⟨p, 12, none⟩ = some (ptrI n P 5) ∧ w.cell? ⟨p, 13, none⟩ = some (ptrI n P 6) ∧ w.cell? ⟨p, 14, none⟩ = some (ptrI n P 7) ∧ w.cell? ⟨p, 15, none⟩ = some (ptrI n P 8) ∧ w.cell? ⟨p, 16, none⟩ = some (ptrI n P 9) ∧ w.cell? ⟨p, 17, none⟩ = some (ptrI n P 10) ∧ w.cell? ⟨p, 18, none⟩ = some (ptrI n P 11) ∧ w.cell? ⟨p, 19, none⟩ = some (ptrI n P 12) ∧ w.cell? ⟨p, 20, none⟩ = some (ptrI n P 13) ∧ w.cell? ⟨p, 21, none⟩ = some (ptrI n P 14) ∧ w.cell? ⟨p, 22, none⟩ = some (ptrI n P 15) := by
  simp [World.cell?, h.box]
set_option maxRecDepth 100000 in
set_option maxHeartbeats 4000000 in
theorem fcopy_ok (h : Fa w B p c n P V G) :
    Calls Tryd.prog 39 #[.pointer (some ⟨p, 0, none⟩)] w fun e w' => ∃ q P' V', e = .returned (.pointer (some ⟨q, 0, none⟩)) ∧ Fa w' w.heap.size q c n P' V' G ∧ Below w.heap.size w w' := by
  obtain ⟨c0, c1, c2, c3, c4, c5, c6⟩ := h.cells
  obtain ⟨d0, d1, d2, d3, d4, d5, d6, d7, d8, d9, d10, d11, d12, d13, d14, d15⟩ := h.ptrs
  have pl := h.lt
  have H := Lib.hid h
  have HN := Lib.hid h.n16
  clear h
  unfold ptrI at d0 d1 d2 d3 d4 d5 d6 d7 d8 d9 d10 d11 d12 d13 d14 d15
  obtain ⟨r, hr⟩ : ∃ r : Nat → Option Addr, ∀ i, r i = if i < n then some ⟨P i, 0, none⟩ else none := ⟨_, fun _ => rfl⟩
  simp only [← hr] at d0 d1 d2 d3 d4 d5 d6 d7 d8 d9 d10 d11 d12 d13 d14 d15
  have HR := Lib.hid hr
  clear hr
  go_enter Tryd.func39, Tryd.ntmps39
  go_wp2_with fail
  obtain ⟨w2, hw2⟩ : ∃ w2, w2 = w.alloc (.cells #[.int .i64 c.co, .int .i64 c.gr, .int .i64 c.se, .int .i64 c.wa, .int .i64 c.de, .int .i64 c.en, .int .i64 c.ba, .pointer none, .pointer none, .pointer none, .pointer none, .pointer none, .pointer none, .pointer none, .pointer none, .pointer none, .pointer none, .pointer none, .pointer none, .pointer none, .pointer none, .pointer none, .pointer none] 128) := ⟨_, rfl⟩
  rw [← hw2]
  obtain ⟨q, hq⟩ : ∃ q, q = w.heap.size := ⟨_, rfl⟩
  have HQ0 : Hid (Fc w w2 q c 0 (fun _ => 0) (fun _ => .slice none 0 0) G) := Lib.hid (by
    have hb12 : Below w.heap.size w w2 := by rw [hw2]; repeat (with_reducible first | exact Below.refl _ _ | assumption | (refine ext_next (by assumption) ?_) | apply ext_alloc | apply ext_past | apply ext_drew | apply ext_drewN)
    refine ⟨hb12, ?_, fun i hi => by omega, ⟨by omega, fun i hi => by omega⟩, fun i j hi hj => by omega⟩
    rw [hw2, hq]
    exact alNew rfl)
  rw [← hq]
  clear hw2 hq c0 c1 c2 c3 c4 c5 c6 d0 d1 d2 d3 d4 d5 d6 d7 d8 d9 d10 d11 d12 d13 d14 d15
  go_loopg [20] 4 (fun g s20 wr => ∃ i : Nat, s20 = .int .i64 i ∧ i + g = 4 ∧ Hid (∃ P' V', Fc w wr q c (min (i * 4) n) P' V' G))
  case atStart => exact ⟨0, rfl, by omega, Lib.hid ⟨_, _, by simpa using HQ0.out⟩⟩
  case round =>
    clear HQ0
    obtain ⟨i, rfl, hk, HRR⟩ := hrel
    by_cases hlt : i < 4
    · have ek : decide ((i : Int) < 4) = true := by simp; omega
      have ek2 : decide (i < 4) = true := by simpa using hlt
      have hi4 : (i : Int) < 4 := by omega
      have hix := idx_row r i hlt
      have HI := Lib.hid (And.intro hk hlt)
      clear hk hlt
      go_wp2_with fail
      go_loopg [25] 4 (fun g s25 wr => ∃ k : Nat, s25 = .int .i64 k ∧ k + g = 4 ∧ Hid (∃ P' V', Fc w wr q c (min (i * 4 + k) n) P' V' G))
      case atStart =>
        refine ⟨0, rfl, by omega, Lib.hid ?_⟩
        obtain ⟨P', V', h9⟩ := HRR.out
        exact ⟨P', V', h9.ext (ext_alloc _ (Below.refl _ _))⟩
      case round =>
        clear HRR hix ek ek2
        obtain ⟨k, rfl, hk, HRR⟩ := hrel
        obtain ⟨P', V', hq⟩ := HRR.out
        have HQ := Lib.hid hq
        clear hq HRR
        by_cases hlt : k < 4
        · have ej : decide ((k : Int) < 4) = true := by simp; omega
          have ej2 : decide (k < 4) = true := by simpa using hlt
          have hk4 : (k : Int) < 4 := by omega
          have hix := idx_one r (i * 4) k hlt
          have HK := Lib.hid (And.intro hk hlt)
          clear hk hlt
          by_cases hin : i * 4 + k < n
          · have er := HR.out (i * 4 + k)
            rw [if_pos hin] at er
            obtain ⟨pp, hpp⟩ : ∃ pp, pp = P (i * 4 + k) := ⟨_, rfl⟩
            rw [← hpp] at er
            rw [er] at hix
            have HCP := Lib.hid (fun (W : World) (hb : Below w.heap.size w W) => lcopy_any pp c.de (V (i * 4 + k)) (G (i * 4 + k)) W (hpp ▸ (H.out.ext hb).la _ hin) (by have := H.out.fit _ hin; have := HN.out; omega))
            have HIN := Lib.hid hin
            clear er hpp hin
            go_wp2_with fail
            have QQ : True := trivial
            go_region_held3 (fun _ => True) (exact QQ) (first | (go_at_call 82; refine (HCP.out _ (ext_drew HQ.out.be)).mono ?_; rintro e w4 ⟨a, v', rfl, hla, ha, hv, hb⟩; have HW4 := Lib.hid (And.intro hla (And.intro ha (And.intro hv hb))); have hq4 := (HQ.out.ext (ext_drew (Below.refl _ _))).ext hb; have pc := hq4.cell (i := i) (k := k) (by omega) (by omega) (by omega); have pf := hq4.free (7 + i * 4 + k); have pl4 := lt_of hq4.box; clear hla ha hv hb hq4))
            all_goals
              go_wp2_with fail
              have hfc := HQ.out.ext (ext_drew (Below.refl _ _))
              have hn9 := HIN.out
              rw [show min (i * 4 + k) n = i * 4 + k by omega] at hfc
              have HF2 := Lib.hid (hfc.put (i := i) (k := k) rfl HK.out.2 HI.out.2 HW4.out.1 HW4.out.2.2.2 HW4.out.2.1 HW4.out.2.2.1)
              clear hfc hn9
              go_roundg (4 - (k + 1))
              case measure => have := HK.out; omega
              case rel => exact ⟨k + 1, by go_num, by have := HK.out; omega, Lib.hid ⟨_, _, by rw [show min (i * 4 + (k + 1)) n = i * 4 + k + 1 by have := HIN.out; omega]; exact HF2.out⟩⟩
          · have er := HR.out (i * 4 + k)
            rw [if_neg hin] at er
            rw [er] at hix
            have HIN := Lib.hid hin
            have pc := HQ.out.cell (i := i) (k := k) (by omega) (by omega) (by omega)
            have pf := HQ.out.free (7 + i * 4 + k)
            have pl4 := lt_of HQ.out.box
            clear er hin
            go_wp2_with fail
            have QQ : True := trivial
            go_region_held3 (fun _ => True) (exact QQ) (first | (go_at_call 82; refine (lcopy_nil _).mono ?_; rintro e w4 ⟨rfl, hw⟩; subst hw))
            all_goals
              go_wp2_with fail
              have HF2 := Lib.hid (HQ.out.skip (i := i) (k := k) (by have := HIN.out; omega) HK.out.2 HI.out.2)
              go_roundg (4 - (k + 1))
              case measure => have := HK.out; omega
              case rel => exact ⟨k + 1, by go_num, by have := HK.out; omega, Lib.hid ⟨P', V', by rw [show min (i * 4 + (k + 1)) n = min (i * 4 + k) n by have := HIN.out; omega]; exact HF2.out.ext (ext_drew (Below.refl _ _))⟩⟩
        · have ej : decide ((k : Int) < 4) = false := by simp; omega
          have ej2 : decide (k < 4) = false := by simpa using hlt
          obtain rfl : k = 4 := by omega
          clear hk hlt
          go_wp2_with fail
          go_roundg (4 - (i + 1))
          case measure => have := HI.out; omega
          case rel => exact ⟨i + 1, by go_num, by have := HI.out; omega, Lib.hid ⟨P', V', by rw [show (i + 1) * 4 = i * 4 + 4 by omega]; exact HQ.out⟩⟩
    · have ek : decide ((i : Int) < 4) = false := by simp; omega
      have ek2 : decide (i < 4) = false := by simpa using hlt
      obtain rfl : i = 4 := by omega
      obtain ⟨P', V', hq⟩ := HRR.out
      have HQ := Lib.hid hq
      clear hk hlt hq HRR
      go_wp2_with fail
      go_ret
      have hn := HN.out
      have hq9 := HQ.out
      rw [show min (4 * 4) n = n by omega] at hq9
      exact ⟨q, P', V', rfl, hq9.fa H.out.ok H.out.hn H.out.fit, hq9.be⟩
end

end Go.Proofs.YtkfnjpmigifomaaDoor
