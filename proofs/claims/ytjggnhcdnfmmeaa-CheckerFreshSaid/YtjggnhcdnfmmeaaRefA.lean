/- What this text holds: the document's answer for a checker, in memory; where a granule is; what it answers, weakly: that it does, and keeps its rows. No condition. -/
import Derived.Test.YtjggnhcdnfmmeaaOff
import Derived.Test.YtjggnhcdnfmmeaaChkB
namespace Go.Proofs.Ytjggnhcdnfmmeaa
open Go.RowKit

/-- The document's answer's state. -/
structure RfS where
  en : Int
  gr : Int
  wk : Int
  a : Int
  st : Bool
  xs : List Int
  ys : List Int
/-- The document's answer in memory. -/
structure Rf (w : World) (p : Nat) (u v : Value) (s : RfS) : Prop where
  blk : w.heap[p]? = some (.cells #[.int .i64 s.en, .int .i64 s.gr, u, v, .int .i64 s.wk, .int .i64 s.a, .bool s.st] 95 (0, 0))
  gx : Rw w u s.xs
  gy : Rw w v s.ys
  len : s.xs.length = s.ys.length
  le : s.xs.length ≤ 100
  nu : u.ownBlock ≠ some p
  nv : v.ownBlock ≠ some p
  uv : ∀ g, u.ownBlock = some g → v.ownBlock ≠ some g
theorem Rf.lt {w : World} {p : Nat} {u v : Value} {s : RfS} (h : Rf w p u v s) : p < w.heap.size := lt_of h.blk
theorem Rf.cells {w : World} {p : Nat} {u v : Value} {s : RfS} (h : Rf w p u v s) : w.cell? ⟨p, 0, none⟩ = some (.int .i64 s.en) ∧ w.cell? ⟨p, 1, none⟩ = some (.int .i64 s.gr) ∧ w.cell? ⟨p, 2, none⟩ = some u ∧ w.cell? ⟨p, 3, none⟩ = some v ∧ w.cell? ⟨p, 4, none⟩ = some (.int .i64 s.wk) ∧ w.cell? ⟨p, 5, none⟩ = some (.int .i64 s.a) ∧ w.cell? ⟨p, 6, none⟩ = some (.bool s.st) := by
  have := h.blk
  simp [World.cell?, this]
theorem Rf.free {w : World} {p : Nat} {u v : Value} {s : RfS} (h : Rf w p u v s) (i : Nat) : w.frozen? ⟨p, i, none⟩ = false := by
  have := h.blk
  simp [World.frozen?, this]
theorem Rf.keep {w w' : World} {p : Nat} {u v : Value} {s : RfS} (h : Rf w p u v s) (k : ∀ g, g = p ∨ u.ownBlock = some g ∨ v.ownBlock = some g → w'.heap[g]? = w.heap[g]?) : Rf w' p u v s :=
  ⟨(k p (.inl rfl)).trans h.blk, h.gx.keep (fun g hg => k g (.inr (.inl hg))), h.gy.keep (fun g hg => k g (.inr (.inr hg))), h.len, h.le, h.nu, h.nv, h.uv⟩
theorem Rf.ext {w w' : World} {p : Nat} {u v : Value} {s : RfS} (h : Rf w p u v s) (hb : Below w.heap.size w w') : Rf w' p u v s :=
  h.keep (fun g hg => hb.block g (hg.elim (fun e => e ▸ h.lt) (fun e => e.elim (h.gx.lt g) (h.gy.lt g))))

/-- What a call of it turns: its block, and its rows; and what is new. -/
structure T2 (w w' : World) (p : Nat) (r r' : Option Nat) : Prop where
  os : w'.os = w.os
  tape : w'.tape = w.tape
  output : w'.output = w.output
  size : w.heap.size ≤ w'.heap.size
  block : ∀ k, k < w.heap.size → k ≠ p → some k ≠ r → some k ≠ r' → w'.heap[k]? = w.heap[k]?
theorem T2.of_below {w w' : World} {p : Nat} {r r' : Option Nat} (h : Below w.heap.size w w') : T2 w w' p r r' := ⟨h.os, h.tape, h.output, h.size, fun k hk _ _ _ => h.block k hk⟩
theorem T2.trans {a b c : World} {p : Nat} {r r' q q' : Option Nat} (h : T2 a b p r r') (k : T2 b c p q q') (hq : ∀ g, q = some g → r = some g ∨ a.heap.size ≤ g) (hq' : ∀ g, q' = some g → r' = some g ∨ a.heap.size ≤ g) : T2 a c p r r' :=
  ⟨k.os.trans h.os, k.tape.trans h.tape, k.output.trans h.output, Nat.le_trans h.size k.size, fun i hi h1 h2 h3 => (k.block i (Nat.lt_of_lt_of_le hi h.size) h1
    (fun e => by
      rcases hq i e.symm with h4 | h4
      · exact h2 h4.symm
      · omega)
    (fun e => by
      rcases hq' i e.symm with h4 | h4
      · exact h3 h4.symm
      · omega)).trans (h.block i hi h1 h2 h3)⟩

theorem rnew (n m : Int) (w : World) : Calls Try.prog 14 #[.int .i64 n, .int .i64 m] w fun e w' => e = .returned (.pointer (some ⟨w.heap.size, 0, none⟩)) ∧ Rf w' w.heap.size (.slice none 0 0) (.slice none 0 0) ⟨n, m, -1, 0, false, [], []⟩ ∧ Below w.heap.size w w' := by
  go_enter Try.func14, Try.ntmps14
  go_wp2
  go_ret
  exact ⟨rfl, ⟨alNew rfl, Rw.nil _, Rw.nil _, rfl, by simp, (fun e => by cases e), (fun e => by cases e), (fun g e => by cases e)⟩, (by repeat (with_reducible first | exact Below.refl _ _ | assumption | (refine ext_next (by assumption) ?_) | apply ext_alloc | apply ext_past | apply ext_drew | apply ext_drewN))⟩

set_option maxRecDepth 100000 in
theorem rplace (p : Nat) (u v : Value) (s : RfS) (g : Int) (w : World) (h : Rf w p u v s) :
    Calls Try.prog 52 #[.pointer (some ⟨p, 0, none⟩), .int .i64 g] w fun e w' => (∃ r : Int, e = .returned (.int .i64 r) ∧ -1 ≤ r ∧ r < s.xs.length) ∧ Below w.heap.size w w' := by
  have H := Lib.hid h
  have hle := h.le
  obtain ⟨A, c, rfl, _, _⟩ := h.gx.form
  clear h
  go_enter Try.func52, Try.ntmps52
  go_wp2_with fail
  go_loopg [5] s.xs.length (fun g5 s5 wr => ∃ k : Nat, k + g5 = s.xs.length ∧ s5 = .int .i64 k ∧ Hid (Below w.heap.size w wr))
  case atStart => exact ⟨0, by omega, rfl, Below.refl _ _⟩
  case round =>
    obtain ⟨k, hk, rfl, HW⟩ := hrel
    have hR := H.out.ext HW.out
    have c2 := hR.cells.2.2.1
    have hl := hR.lt
    have hc := hR.gx.cell
    clear hR
    by_cases hlt : k < s.xs.length
    · have ek : decide ((k : Int) < (s.xs.length : Int)) = true := by simp; omega
      obtain ⟨bb, off, rfl, hbb, hcc⟩ := hc k hlt
      clear hc
      generalize s.xs[k] = z at hcc
      cases hz : (z == g)
      · go_wp2_with fail
        go_roundg (s.xs.length - (k + 1))
        case measure => omega
        case rel => exact ⟨k + 1, by omega, by go_num, HW⟩
      · go_wp2_with fail
        go_ret
        exact ⟨⟨k, rfl, by omega, by omega⟩, HW.out⟩
    · have ek : decide ((k : Int) < (s.xs.length : Int)) = false := by simp; omega
      clear hc
      go_wp2_with fail
      go_ret
      exact ⟨⟨-1, rfl, by omega, by omega⟩, HW.out⟩

theorem rask (p : Nat) (u v : Value) (s : RfS) (x g : Int) (w : World) (h : Rf w p u v s) :
    Calls Try.prog 38 #[.pointer (some ⟨p, 0, none⟩), .int .i64 x, .int .i64 g] w fun e w' => (∃ r : Int, e = .returned (.int .i64 r)) ∧ Below w.heap.size w w' := by
  have H := Lib.hid h
  have hle := h.le
  have hlen := h.len
  clear h
  go_enter Try.func38, Try.ntmps38
  go_wp2_with fail
  refine (rplace p u v s g w H.out).mono ?_
  rintro e w1 ⟨⟨r, rfl, hr1, hr2⟩, hb⟩
  have HB := Lib.hid hb
  have hR := H.out.ext hb
  have hl := hR.lt
  have c3 := hR.cells.2.2.2.1
  obtain ⟨B, c, rfl, _, _⟩ := hR.gy.form
  have hc := hR.gy.cell
  clear hR hb
  by_cases hneg : r < 0
  · have e0 : decide (r < 0) = true := by simpa using hneg
    clear hc
    go_wp2_with fail
    go_ret
    exact ⟨⟨3, rfl⟩, HB.out⟩
  · have e0 : decide (r < 0) = false := by simp; omega
    obtain ⟨k, rfl⟩ := Int.eq_ofNat_of_zero_le (show 0 ≤ r by omega)
    have hk : k < s.ys.length := by omega
    obtain ⟨bb, off, rfl, hbb, hcc⟩ := hc k hk
    clear hc
    generalize s.ys[k] = z at hcc
    cases h1 : (x == 0)
    · cases h2 : (z == x)
      · cases h3 : (z == 4)
        · go_wp2_with fail
          go_ret
          exact ⟨⟨2, rfl⟩, HB.out⟩
        · go_wp2_with fail
          go_ret
          exact ⟨⟨1, rfl⟩, HB.out⟩
      · go_wp2_with fail
        go_ret
        exact ⟨⟨1, rfl⟩, HB.out⟩
    · go_wp2_with fail
      go_ret
      exact ⟨⟨1, rfl⟩, HB.out⟩

end Go.Proofs.Ytjggnhcdnfmmeaa
