/- What this text holds: a word that ends a checker's walk. No condition. -/
import Derived.Test.YtjggnhcdnfmmeaaChkW
namespace Go.Proofs.Ytjggnhcdnfmmeaa
open Go.RowKit

/-- What is known behind a fact that was learnt. -/
def learnt (ks : List Fa) (en : Int) (f : Fa) : List Fa := (if (ks.length : Int) < en then ks else ks.tail) ++ [f]
theorem learn_both (p : Nat) (v : Value) (s : CkS) (g o : Int) (w : World) (h : Ck w p v s) (hl : s.ks.length ≤ 90) (hen : 1 ≤ s.en) :
    Calls Try.prog 45 #[.pointer (some ⟨p, 0, none⟩), .agg #[.int .i64 g, .int .i64 o]] w fun e w' => (∃ r, e = .returned r) ∧ ∃ v', Ck w' p v' { s with ks := learnt s.ks s.en (g, o) } ∧ Tc w w' p v.ownBlock ∧ (∀ g, v'.ownBlock = some g → v.ownBlock = some g ∨ w.heap.size ≤ g) := by
  unfold learnt
  by_cases hr : (s.ks.length : Int) < s.en
  · rw [if_pos hr]
    exact learn_any p v s g o w h hl hr
  · rw [if_neg hr]
    exact learn_full p v s g o w h hl (by omega) (by omega)

set_option maxRecDepth 100000 in
set_option maxHeartbeats 2000000 in
theorem cwalked_learn (p : Nat) (v : Value) (s : CkS) (y : Int) (o : Int) (w : World) (h : Ck w p v s) (_hw : s.wk = true) (_hs : s.st = false) (_h0 : 0 ≤ s.g) (_h1 : s.g < 16)
    (_hN : ∀ w, Calls Try.prog 44 #[.int .i64 s.gr, .int .i64 s.g, .int .i64 s.a, .int .i64 y] w fun e w' => e = .returned (.tuple #[.int .i64 0, .agg #[.int .i64 o, .bool false], .bool true, .int .i64 0]) ∧ Below w.heap.size w w') (_hl : s.ks.length ≤ 90) (_hen : 1 ≤ s.en) :
    Calls Try.prog 19 #[.pointer (some ⟨p, 0, none⟩), .int .i64 s.a, .int .i64 y] w fun e w' => e = .returned (.tuple #[.int .i64 0, .bool true, .int .i64 0]) ∧ ∃ v', Ck w' p v' ⟨false, 0, 0, false, s.en, s.gr, learnt s.ks s.en (s.g, o)⟩ ∧ Tc w w' p v.ownBlock ∧ (∀ g, v'.ownBlock = some g → v.ownBlock = some g ∨ w.heap.size ≤ g) := by
  obtain ⟨c0, c1, c2, c3, c4, c5, c6⟩ := h.cells
  have hf := h.free
  have hl := h.lt
  have H := Lib.hid h
  have HN := Lib.hid _hN
  rw [_hw] at c0
  rw [_hs] at c3
  clear h _hw _hs _hN
  obtain ⟨sk, sg, sa, ss, se, sr, ks⟩ := s
  dsimp only at *
  go_enter Try.func19, Try.ntmps19
  go_wp2_with fail
  refine (first_ok sg _ _h0 _h1).mono ?_
  rintro e w2 ⟨rfl, hw⟩
  subst hw
  go_wp2_with fail
  go_cut [6, 7, 8, 10] from 53 to 69 (fun s6 s7 s8 s10 wc => ∃ bx : Nat, s6 = .int .i64 0 ∧ s7 = .bool true ∧ s8 = .int .i64 0 ∧ s10 = .pointer (some ⟨bx, 0, none⟩) ∧ Hid (wc.heap[bx]? = some (.cells #[.int .i64 o, .bool false] 55 (0, 0)) ∧ w2.heap.size ≤ bx ∧ Below w2.heap.size w2 wc))
  case first =>
    have QQ := And.intro c5 c1
    have hl1 := hl
    go_region_held3 (fun w' => w'.cell? ⟨p, 5, none⟩ = some (.int .i64 sr) ∧ w'.cell? ⟨p, 1, none⟩ = some (.int .i64 sg))
      (first | exact QQ | exact ⟨(set2_cell (by simp; omega)).trans QQ.1, (set2_cell (by simp; omega)).trans QQ.2⟩ | exact ⟨(((Below.refl _ _).alloc (Nat.le_refl _) _).cell (p := ⟨p, 5, none⟩) hl1).trans QQ.1, (((Below.refl _ _).alloc (Nat.le_refl _) _).cell (p := ⟨p, 1, none⟩) hl1).trans QQ.2⟩)
      (first
        | (go_at_call 44; have hq := HN.out w2.drew; refine hq.mono ?_; clear hq; rintro e w1 ⟨rfl, hb⟩; have HB := Lib.hid (un_drew hb); have hl1 : p < w1.heap.size := Nat.lt_of_lt_of_le hl HB.out.size; have QQ := And.intro ((HB.out.cell (p := ⟨p, 5, none⟩) hl).trans c5) ((HB.out.cell (p := ⟨p, 1, none⟩) hl).trans c1); clear hb)
        | (go_at_call 44; have hq := HN.out (w2.alloc (.cells #[.int .i64 0, .bool false] 55)).drew; refine hq.mono ?_; clear hq; rintro e w1 ⟨rfl, hb⟩; have HB : Hid (Below w2.heap.size w2 w1) := Lib.hid (ext_next hb (ext_drew (ext_alloc _ (Below.refl _ _)))); have hbx : w1.heap[w2.heap.size]? = some (.cells #[.int .i64 0, .bool false] 55 (0, 0)) := (hb.block w2.heap.size (by simp)).trans (alNew rfl); have x0 : w1.cell? ⟨w2.heap.size, 0, none⟩ = some (.int .i64 0) := (by simp [World.cell?, hbx]); have x1 : w1.cell? ⟨w2.heap.size, 1, none⟩ = some (.bool false) := (by simp [World.cell?, hbx]); have xf : ∀ i, w1.frozen? ⟨w2.heap.size, i, none⟩ = false := fun i => (by simp [World.frozen?, hbx]); have xl := lt_of hbx; have HX := Lib.hid hbx; have hl1 : p < w1.heap.size := Nat.lt_of_lt_of_le hl HB.out.size; have QQ := And.intro ((HB.out.cell (p := ⟨p, 5, none⟩) hl).trans c5) ((HB.out.cell (p := ⟨p, 1, none⟩) hl).trans c1); clear hb hbx))
    all_goals (try go_wp2_with fail)
    all_goals go_meet
    all_goals first
      | exact ⟨_, rfl, rfl, rfl, rfl, Lib.hid ⟨alNew rfl, HB.out.size, ext_alloc _ HB.out⟩⟩
      | exact ⟨_, rfl, rfl, rfl, rfl, Lib.hid ⟨by simpa using Joins.block_setCell (i := 1) (Joins.block_setCell (i := 0) HX.out (.int .i64 o)) (.bool false), Nat.le_refl _, (HB.out.setCell (p := ⟨w2.heap.size, 0, none⟩) (Nat.le_refl _) _).setCell (p := ⟨w2.heap.size, 1, none⟩) (Nat.le_refl _) _⟩⟩
  case rest =>
    obtain ⟨bx, rfl, rfl, rfl, rfl, HC⟩ := hcut
    have x0 : wc.cell? ⟨bx, 0, none⟩ = some (.int .i64 o) := by have := HC.out.1; simp [World.cell?, this]
    have x1 : wc.cell? ⟨bx, 1, none⟩ = some (.bool false) := by have := HC.out.1; simp [World.cell?, this]
    have xl := lt_of HC.out.1
    have HB := Lib.hid HC.out.2.2
    have hl1 : p < wc.heap.size := Nat.lt_of_lt_of_le hl HB.out.size
    have H1 := H.out.ext HB.out
    obtain ⟨k0, k1, k2, k3, _⟩ := H1.cells
    have kf := H1.free
    have H1h := Lib.hid H1
    have hpb : p ≠ bx := by have := HC.out.2.1; omega
    have hvb : v.ownBlock ≠ some bx := fun e => by have := (H.out.own.lt bx e).2; have := HC.out.2.1; omega
    dsimp only at k0 k1 k2 k3
    clear H1
    go_wp2_with fail
    have QQ := And.intro k1 x0
    go_region_held3 (fun w' => w'.cell? ⟨p, 1, none⟩ = some (.int .i64 sg) ∧ w'.cell? ⟨bx, 0, none⟩ = some (.int .i64 o))
      (exact QQ)
      (first
        | (go_at_call 45; have hq := learn_both p v ⟨sk, sg, sa, ss, se, sr, ks⟩ sg o wc.drew (H1h.out.ext (ext_drew (Below.refl _ _))) _hl _hen; refine hq.mono ?_; clear hq; rintro e w3 ⟨⟨r, rfl⟩, v', hc3, ht3, hf3⟩; have H3 := Lib.hid (And.intro hc3 (And.intro ht3 hf3)); have y1 := hc3.cells.2.1; have y0 : w3.cell? ⟨bx, 0, none⟩ = some (.int .i64 o) := (World.cell?_of_block (a := ⟨bx, 0, none⟩) (ht3.block bx xl (Ne.symm hpb) (fun e => hvb e.symm))).trans x0; have QQ := And.intro y1 y0; clear hc3 ht3 hf3))
    clear QQ
    obtain ⟨z0, z1, z2, z3, _⟩ := H3.out.1.cells
    have zf := H3.out.1.free
    have zl := H3.out.1.lt
    dsimp only at z0 z1 z2 z3
    go_wp2_with fail
    go_ret3
    have hE := H3.out.1.setW false 0 0 false
    have hsB := HB.out.size
    refine ⟨rfl, v', hE, ?_, fun q hq => (H3.out.2.2 q hq).imp id (fun h => Nat.le_trans hsB h)⟩
    exact ((Tc.of_below HB.out).trans ⟨H3.out.2.1.os, H3.out.2.1.tape, H3.out.2.1.output, H3.out.2.1.size, H3.out.2.1.block⟩ (fun q hq => .inl hq)).trans (Tc.of_grown (setW_grown w3 p false 0 0 false) (r := none)) (fun q hq => by cases hq)

end Go.Proofs.Ytjggnhcdnfmmeaa
