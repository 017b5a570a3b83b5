/- What this text holds: the document's answer for a checker while it learns: its two rows cut, and appended to. No condition. -/
import Derived.Test.YtjggnhcdnfmmeaaRefC
namespace Go.Proofs.Ytjggnhcdnfmmeaa
open Go.RowKit

/-- The document's answer between two of its stores. -/
structure Md (w wd : World) (p bx : Nat) (o : Int) (u v : Value) (s : RfS) (u1 v1 : Value) (xs1 ys1 : List Int) : Prop where
  pw : p < w.heap.size
  blk : wd.heap[p]? = some (.cells #[.int .i64 s.en, .int .i64 s.gr, u1, v1, .int .i64 s.wk, .int .i64 s.a, .bool s.st] 95 (0, 0))
  gx : Rw wd u1 xs1
  gy : Rw wd v1 ys1
  nu : u1.ownBlock ≠ some p
  nv : v1.ownBlock ≠ some p
  uv : ∀ g, u1.ownBlock = some g → v1.ownBlock ≠ some g
  t2 : T2 w wd p u.ownBlock v.ownBlock
  fu : ∀ g, u1.ownBlock = some g → u.ownBlock = some g ∨ w.heap.size ≤ g
  fv : ∀ g, v1.ownBlock = some g → v.ownBlock = some g ∨ w.heap.size ≤ g
  box : wd.heap[bx]? = some (.cells #[.int .i64 o, .bool false] 116 (0, 0))
  bx0 : w.heap.size ≤ bx
  nub : u1.ownBlock ≠ some bx
  nvb : v1.ownBlock ≠ some bx

theorem Md.ext {w wd we : World} {p bx : Nat} {o : Int} {u v : Value} {s : RfS} {u1 v1 : Value} {xs1 ys1 : List Int} (h : Md w wd p bx o u v s u1 v1 xs1 ys1) (hb : Below wd.heap.size wd we) : Md w we p bx o u v s u1 v1 xs1 ys1 :=
  { h with blk := (hb.block _ (lt_of h.blk)).trans h.blk, gx := h.gx.ext hb, gy := h.gy.ext hb, box := (hb.block _ (lt_of h.box)).trans h.box,
           t2 := ⟨hb.os.trans h.t2.os, hb.tape.trans h.t2.tape, hb.output.trans h.t2.output, Nat.le_trans h.t2.size hb.size, fun k hk h1 h2 h3 => (hb.block k (Nat.lt_of_lt_of_le hk h.t2.size)).trans (h.t2.block k hk h1 h2 h3)⟩ }
theorem Md.cells {w wd : World} {p bx : Nat} {o : Int} {u v : Value} {s : RfS} {u1 v1 : Value} {xs1 ys1 : List Int} (h : Md w wd p bx o u v s u1 v1 xs1 ys1) :
    wd.cell? ⟨p, 2, none⟩ = some u1 ∧ wd.cell? ⟨p, 3, none⟩ = some v1 ∧ wd.cell? ⟨p, 4, none⟩ = some (.int .i64 s.wk) ∧ wd.cell? ⟨bx, 0, none⟩ = some (.int .i64 o) ∧ (∀ i, wd.frozen? ⟨p, i, none⟩ = false) ∧ p < wd.heap.size ∧ bx < wd.heap.size := by
  have h1 := h.blk
  have h2 := h.box
  refine ⟨by simp [World.cell?, h1], by simp [World.cell?, h1], by simp [World.cell?, h1], by simp [World.cell?, h2], fun i => by simp [World.frozen?, h1], lt_of h1, lt_of h2⟩

theorem Md.appX {w wd w3 : World} {p bx : Nat} {o : Int} {u v : Value} {s : RfS} {u1 v1 v3 : Value} {xs1 ys1 zs : List Int} (h : Md w wd p bx o u v s u1 v1 xs1 ys1) (r : Rw w3 v3 zs) (g : wd.grownBy w3 u1.ownBlock)
    (f : ∀ g, v3.ownBlock = some g → u1.ownBlock = some g ∨ wd.heap.size ≤ g) : Md w (w3.setCell ⟨p, 2, none⟩ v3) p bx o u v s v3 v1 zs ys1 := by
  have hp := lt_of h.blk
  have hb := lt_of h.box
  have hs := h.t2.size
  have hpw := h.pw
  have hbx := h.bx0
  have n3 : v3.ownBlock ≠ some p := fun e => by
    rcases f p e with h1 | h1
    · exact h.nu h1
    · omega
  have bp := Joins.block_setCell (i := 2) ((g.block p hp (fun e => h.nu e.symm)).trans h.blk) v3
  refine ⟨h.pw, by simpa using bp, r.keep (fun q hq => Below.heap_setCell _ _ _ _ (fun e => n3 (by rw [hq, e]))), h.gy.keep (fun q hq => (Below.heap_setCell _ _ _ _ (fun e => h.nv (by rw [hq, e]))).trans (g.block q (h.gy.lt q hq) (fun e => h.uv q e.symm hq))), n3, h.nv, fun q hq e => ?_,
    ⟨g.os.trans h.t2.os, g.tape.trans h.t2.tape, g.output.trans h.t2.output, Nat.le_trans hs (by simpa using g.size), fun k hk h1 h2 h3 => ?_⟩, fun q hq => ?_, h.fv, ?_, h.bx0, fun e => ?_, h.nvb⟩
  · rcases f q hq with h1 | h1
    · exact h.uv q h1 e
    · have := h.gy.lt q e
      omega
  · refine (Below.heap_setCell _ _ _ _ h1).trans ((g.block k (by omega) (fun e => ?_)).trans (h.t2.block k hk h1 h2 h3))
    rcases h.fu k e.symm with h4 | h4
    · exact h2 h4.symm
    · omega
  · rcases f q hq with h1 | h1
    · exact h.fu q h1
    · exact .inr (by omega)
  · exact (Below.heap_setCell _ _ _ _ (show bx ≠ p by omega)).trans ((g.block bx hb (fun e => h.nub e.symm)).trans h.box)
  · rcases f bx e with h1 | h1
    · exact h.nub h1
    · omega
theorem Md.appY {w wd w3 : World} {p bx : Nat} {o : Int} {u v : Value} {s : RfS} {u1 v1 v3 : Value} {xs1 ys1 zs : List Int} (h : Md w wd p bx o u v s u1 v1 xs1 ys1) (r : Rw w3 v3 zs) (g : wd.grownBy w3 v1.ownBlock)
    (f : ∀ g, v3.ownBlock = some g → v1.ownBlock = some g ∨ wd.heap.size ≤ g) : Md w (w3.setCell ⟨p, 3, none⟩ v3) p bx o u v s u1 v3 xs1 zs := by
  have hp := lt_of h.blk
  have hb := lt_of h.box
  have hs := h.t2.size
  have hpw := h.pw
  have hbx := h.bx0
  have n3 : v3.ownBlock ≠ some p := fun e => by
    rcases f p e with h1 | h1
    · exact h.nv h1
    · omega
  have bp := Joins.block_setCell (i := 3) ((g.block p hp (fun e => h.nv e.symm)).trans h.blk) v3
  refine ⟨h.pw, by simpa using bp, h.gx.keep (fun q hq => (Below.heap_setCell _ _ _ _ (fun e => h.nu (by rw [hq, e]))).trans (g.block q (h.gx.lt q hq) (fun e => h.uv q hq e.symm))), r.keep (fun q hq => Below.heap_setCell _ _ _ _ (fun e => n3 (by rw [hq, e]))), h.nu, n3, fun q hq e => ?_,
    ⟨g.os.trans h.t2.os, g.tape.trans h.t2.tape, g.output.trans h.t2.output, Nat.le_trans hs (by simpa using g.size), fun k hk h1 h2 h3 => ?_⟩, h.fu, fun q hq => ?_, ?_, h.bx0, h.nub, fun e => ?_⟩
  · rcases f q e with h1 | h1
    · exact h.uv q hq h1
    · have := h.gx.lt q hq
      omega
  · refine (Below.heap_setCell _ _ _ _ h1).trans ((g.block k (by omega) (fun e => ?_)).trans (h.t2.block k hk h1 h2 h3))
    rcases h.fv k e.symm with h4 | h4
    · exact h3 h4.symm
    · omega
  · rcases f q hq with h1 | h1
    · exact h.fv q h1
    · exact .inr (by omega)
  · exact (Below.heap_setCell _ _ _ _ (show bx ≠ p by omega)).trans ((g.block bx hb (fun e => h.nvb e.symm)).trans h.box)
  · rcases f bx e with h1 | h1
    · exact h.nvb h1
    · omega

theorem Md.begin {w wd : World} {p bx : Nat} {o : Int} {u v : Value} {s : RfS} (H : Rf w p u v s) (hb : Below w.heap.size w wd) (hx : wd.heap[bx]? = some (.cells #[.int .i64 o, .bool false] 116 (0, 0))) (h0 : w.heap.size ≤ bx) : Md w wd p bx o u v s u v s.xs s.ys := by
  have h := H.ext hb
  exact ⟨H.lt, h.blk, h.gx, h.gy, h.nu, h.nv, h.uv, T2.of_below hb, fun _ h => .inl h, fun _ h => .inl h, hx, h0, (fun e => by have := H.gx.lt bx e; omega), (fun e => by have := H.gy.lt bx e; omega)⟩

/-- Cut at the front, both. -/
theorem Md.cut {w wd : World} {p bx : Nat} {o : Int} {u v : Value} {s : RfS} {A B : Option Addr} {n c m d : Nat} {x y : Int} {xs ys : List Int} (h : Md w wd p bx o u v s (.slice A n c) (.slice B m d) (x :: xs) (y :: ys)) :
    Md w ((wd.setCell ⟨p, 2, none⟩ (sliced A 1 n c 1)).setCell ⟨p, 3, none⟩ (sliced B 1 m d 1)) p bx o u v s (sliced A 1 n c 1) (sliced B 1 m d 1) xs ys := by
  obtain ⟨a1, _, a3⟩ := h.gx.cut
  obtain ⟨b1, _, b3⟩ := h.gy.cut
  have k1 := h.appX (w3 := wd) a1 ⟨rfl, rfl, rfl, Nat.le_refl _, fun _ _ _ => rfl⟩ (fun g hg => .inl (a3 g hg))
  have b2 : Rw (wd.setCell ⟨p, 2, none⟩ (sliced A 1 n c 1)) (sliced B 1 m d 1) ys := b1.keep (fun q hq => Below.heap_setCell _ _ _ _ (fun e => h.nv (by rw [b3 q hq, e])))
  exact k1.appY (w3 := wd.setCell ⟨p, 2, none⟩ (sliced A 1 n c 1)) b2 ⟨rfl, rfl, rfl, Nat.le_refl _, fun _ _ _ => rfl⟩ (fun g hg => .inl (b3 g hg))

theorem Md.post {w wd W : World} {p bx : Nat} {o : Int} {u v : Value} {s : RfS} {u1 v1 : Value} {xs1 ys1 : List Int} (h : Md w wd p bx o u v s u1 v1 xs1 ys1) (hl : xs1.length = ys1.length) (hn : (xs1.length : Int) ≤ s.en) (he : s.en ≤ 8) (hW : W = wd.setCell ⟨p, 4, none⟩ (.int .i64 (-1))) : RPost w W p u v s := by
  subst hW
  have bp := Joins.block_setCell (i := 4) h.blk (.int .i64 (-1))
  refine ⟨u1, v1, { s with wk := -1, xs := xs1, ys := ys1 }, ⟨by simpa using bp, h.gx.keep (fun q hq => Below.heap_setCell _ _ _ _ (fun e => h.nu (by rw [hq, e]))), h.gy.keep (fun q hq => Below.heap_setCell _ _ _ _ (fun e => h.nv (by rw [hq, e]))), hl, by dsimp only; omega, h.nu, h.nv, h.uv⟩, rfl, rfl, hn,
    ⟨h.t2.os, h.t2.tape, h.t2.output, by simpa using h.t2.size, fun k hk h1 h2 h3 => (Below.heap_setCell _ _ _ _ h1).trans (h.t2.block k hk h1 h2 h3)⟩, h.fu, h.fv⟩

end Go.Proofs.Ytjggnhcdnfmmeaa
