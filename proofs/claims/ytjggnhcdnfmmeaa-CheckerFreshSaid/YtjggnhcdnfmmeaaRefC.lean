/- What this text holds: the document's answer for a checker forgets: weakly. No condition. -/
import Derived.Test.YtjggnhcdnfmmeaaRefB
import Derived.Laws.EntriesVeiled
namespace Go.Proofs.Ytjggnhcdnfmmeaa
open Go.RowKit

theorem cell_new1 (w : World) (x : Value) (t : TypeId) : (w.alloc (.cells #[x] t)).cell? ((⟨w.heap.size, 0, none⟩ : Addr).add 0) = some x := by
  rw [Addr.add_lit]
  unfold World.cell?
  rw [show (w.alloc (.cells #[x] t)).heap[w.heap.size]? = _ from alNew rfl]
  rfl

/-- Two new rows while facts are kept. -/
structure Two (w w' : World) (va vb : Value) (ms ns : List Int) : Prop where
  ra : Rw w' va ms
  rb : Rw w' vb ns
  fa : ∀ g, va.ownBlock = some g → w.heap.size ≤ g
  fb : ∀ g, vb.ownBlock = some g → w.heap.size ≤ g
  ne : ∀ g, va.ownBlock = some g → vb.ownBlock ≠ some g
  below : Below w.heap.size w w'
theorem Two.stepA {w w1 w2 w3 : World} {va vb v1 : Value} {ms ns ls : List Int} (h : Two w w1 va vb ms ns) (hb : Below w1.heap.size w1 w2) (r : Rw w3 v1 ls) (g : w2.grownBy w3 va.ownBlock) (f : ∀ g, v1.ownBlock = some g → va.ownBlock = some g ∨ w2.heap.size ≤ g) : Two w w3 v1 vb ls ns := by
  have h2 := h.below.size
  have h3 := hb.size
  refine ⟨r, (h.rb.ext hb).keep (fun q hq => g.block q ((h.rb.ext hb).lt q hq) (fun e => h.ne q e.symm hq)), fun q hq => ?_, h.fb, fun q hq e => ?_, ?_⟩
  · rcases f q hq with h1 | h1
    · exact h.fa q h1
    · omega
  · rcases f q hq with h1 | h1
    · exact h.ne q h1 e
    · have := (h.rb.ext hb).lt q e
      omega
  · exact (h.below.trans (hb.mono h2)).trans ⟨g.os, g.tape, g.output, g.size, fun k hk => g.block k (by omega) (fun e => by have := h.fa k e.symm; omega)⟩
theorem Two.stepB {w w1 w2 w3 : World} {va vb v1 : Value} {ms ns ls : List Int} (h : Two w w1 va vb ms ns) (hb : Below w1.heap.size w1 w2) (r : Rw w3 v1 ls) (g : w2.grownBy w3 vb.ownBlock) (f : ∀ g, v1.ownBlock = some g → vb.ownBlock = some g ∨ w2.heap.size ≤ g) : Two w w3 va v1 ms ls := by
  have hs : Two w w1 vb va ns ms := ⟨h.rb, h.ra, h.fb, h.fa, fun q h1 h2 => h.ne q h2 h1, h.below⟩
  have k := hs.stepA hb r g f
  exact ⟨k.rb, k.ra, k.fb, k.fa, fun q h1 h2 => k.ne q h2 h1, k.below⟩

theorem Two.post {w wr W : World} {p : Nat} {u v va vb : Value} {s : RfS} {ms ns : List Int} (H : Rf w p u v s) (T : Two w wr va vb ms ns) (hn : ms.length = ns.length) (hm : ms.length ≤ s.xs.length) (hl : (s.xs.length : Int) ≤ s.en) (b : Bool)
    (hk : W.heap[p]? = some (.cells #[.int .i64 s.en, .int .i64 s.gr, va, vb, .int .i64 s.wk, .int .i64 s.a, .bool b] 95 (0, 0))) (ho : ∀ k, k ≠ p → W.heap[k]? = wr.heap[k]?) (e1 : W.os = wr.os) (e2 : W.tape = wr.tape) (e3 : W.output = wr.output) (e4 : W.heap.size = wr.heap.size) : RPost w W p u v s := by
  have hlt := H.lt
  have ha : va.ownBlock ≠ some p := fun e => by have := T.fa p e; omega
  have hb : vb.ownBlock ≠ some p := fun e => by have := T.fb p e; omega
  refine ⟨va, vb, { s with xs := ms, ys := ns, st := b }, ⟨hk, T.ra.keep (fun g hg => ho g (fun e => ha (by rw [hg, e]))), T.rb.keep (fun g hg => ho g (fun e => hb (by rw [hg, e]))), hn, ?_, ha, hb, T.ne⟩, rfl, rfl, ?_, ⟨e1.trans T.below.os, e2.trans T.below.tape, e3.trans T.below.output, by rw [e4]; exact T.below.size, fun k hk h1 _ _ => (ho k h1).trans (T.below.block k hk)⟩, fun g hg => .inr (T.fa g hg), fun g hg => .inr (T.fb g hg)⟩
  · have := H.le
    dsimp only
    omega
  · dsimp only
    omega

set_option maxRecDepth 100000 in
set_option maxHeartbeats 4000000 in
theorem rdrop (p : Nat) (u v : Value) (s : RfS) (g : Int) (w : World) (h : Rf w p u v s) (hl : (s.xs.length : Int) ≤ s.en) :
    Calls Try.prog 37 #[.pointer (some ⟨p, 0, none⟩), .int .i64 g] w fun e w' => (∃ a b : Int, e = .returned (.tuple #[.int .i64 a, .int .i64 b])) ∧ RPost w w' p u v s := by
  have H := Lib.hid h
  have c1 := h.cells.2.1
  have hle := h.le
  have HLEN := Lib.hid h.len
  have hlt := h.lt
  obtain ⟨A, c, rfl, _, _⟩ := h.gx.form
  obtain ⟨B, d, rfl, _, _⟩ := h.gy.form
  clear h
  by_cases h1 : g < -1
  · have e1 : decide (g < -1) = true := by simpa using h1
    go_enter Try.func37, Try.ntmps37
    go_wp2_with fail
    go_ret2
    exact ⟨⟨_, _, rfl⟩, H.out.same (Below.refl _ _) hl⟩
  · have e1 : decide (g < -1) = false := by simp; omega
    by_cases h2 : s.gr ≤ g
    · have e2 : decide (g ≥ s.gr) = true := by simp; omega
      go_enter Try.func37, Try.ntmps37
      go_wp2_with fail
      go_ret2
      exact ⟨⟨_, _, rfl⟩, H.out.same (Below.refl _ _) hl⟩
    · have e2 : decide (g ≥ s.gr) = false := by simp; omega
      go_enter Try.func37, Try.ntmps37
      go_wp2_with fail
      clear c1
      go_loopg [6, 7, 8] s.xs.length (fun g5 s6 s7 s8 wr => ∃ (k : Nat) (ms ns : List Int), k + g5 = s.xs.length ∧ s8 = .int .i64 k ∧ ms.length ≤ k ∧ Hid (ms.length = ns.length) ∧ Hid (Two w wr s6 s7 ms ns))
      case atStart => exact ⟨0, [], [], by omega, rfl, by simp, Lib.hid rfl, Lib.hid ⟨Rw.nil _, Rw.nil _, (fun g e => by cases e), (fun g e => by cases e), (fun g e => by cases e), Below.refl _ _⟩⟩
      case round =>
        obtain ⟨k, ms, ns, hk, rfl, hak, HL, HT⟩ := hrel
        have hR := H.out.ext HT.out.below
        have c2 := hR.cells.2.2.1
        have c3 := hR.cells.2.2.2.1
        have hlw := hR.lt
        have HR := Lib.hid hR
        have hcu := H.out.gx.cell
        have hcv := H.out.gy.cell
        clear hR
        by_cases hlt2 : k < s.xs.length
        · have ek : decide ((k : Int) < (s.xs.length : Int)) = true := by simp; omega
          obtain ⟨bb, off, rfl, hbb, hcc0⟩ := hcu k hlt2
          have hky : k < s.ys.length := by rw [← HLEN.out]; exact hlt2
          obtain ⟨bd, off2, rfl, hbd, hcd0⟩ := hcv k hky
          have hcc := (HT.out.below.cell (p := ⟨bb, off + k, none⟩) hbb).trans hcc0
          have hbw := Nat.lt_of_lt_of_le hbb HT.out.below.size
          have HD := Lib.hid hcd0
          clear hcu hcv hcc0 hcd0
          generalize s.xs[k] = z at hcc
          generalize s.ys[k] = y at HD
          by_cases h3 : 0 ≤ g
          · have e3 : decide (g ≥ 0) = true := by simpa using h3
            cases h4 : (z != g)
            · go_wp2_with fail
              go_roundg (s.xs.length - (k + 1))
              case measure => omega
              case rel => exact ⟨k + 1, ms, ns, by omega, by go_num, by omega, HL, HT⟩
            · go_wp2_with (at_builtin; first
                | (refine wpList_append_off rfl _ _ rfl _ ns rfl ((HT1.out.rb).ext (ext_alloc _ (Below.refl _ _))) ⟨w1.heap.size, 0, none⟩ 1 y rfl (cell_new1 _ _ _) (by rw [← HL.out]; omega) ?_; intro v2 w2 r2 g2 f2; have HT2 := Lib.hid (HT1.out.stepB (ext_alloc _ (Below.refl _ _)) r2 g2 f2); clear r2 g2 f2)
                | (refine wpList_append_off rfl _ _ rfl _ ms rfl ((HT.out.ra).ext (ext_alloc _ (Below.refl _ _))) ⟨wr.heap.size, 0, none⟩ 1 z rfl (cell_new1 _ _ _) (by omega) ?_; intro v1 w1 r1 g1 f1; have HT1 := Lib.hid (HT.out.stepA (ext_alloc _ (Below.refl _ _)) r1 g1 f1); clear r1 g1 f1; have hR1 := H.out.ext HT1.out.below; have c3' := hR1.cells.2.2.2.1; have hlw1 := hR1.lt; have hcd := (HT1.out.below.cell (p := ⟨bd, off2 + k, none⟩) hbd).trans HD.out; have hbw1 := Nat.lt_of_lt_of_le hbd HT1.out.below.size; clear hR1))
              go_roundg (s.xs.length - (k + 1))
              case measure => omega
              case rel => exact ⟨k + 1, ms ++ [z], ns ++ [y], by omega, by go_num, by simp; omega, Lib.hid (by simp [HL.out]), HT2⟩
          · have e3 : decide (g ≥ 0) = false := by simp; omega
            go_wp2_with fail
            go_roundg (s.xs.length - (k + 1))
            case measure => omega
            case rel => exact ⟨k + 1, ms, ns, by omega, by go_num, by omega, HL, HT⟩
        · have ek : decide ((k : Int) < (s.xs.length : Int)) = false := by simp; omega
          clear hcu hcv
          obtain ⟨Aa, ca, rfl, _, _⟩ := HT.out.ra.form
          obtain ⟨Ab, cb, rfl, _, _⟩ := HT.out.rb.form
          have c4 := HR.out.cells.2.2.2.2.1
          have c6 := HR.out.cells.2.2.2.2.2.2
          have hf := HR.out.free
          have s2 := Joins.block_setCell (i := 3) (Joins.block_setCell (i := 2) HR.out.blk (.slice Aa ms.length ca)) (.slice Ab ns.length cb)
          have HS := Lib.hid s2
          have s3 := Joins.block_setCell (i := 6) s2 (.bool true)
          have HS3 := Lib.hid s3
          clear s2 s3
          by_cases h5 : 0 ≤ s.wk
          · have e5 : decide (s.wk ≥ 0) = true := by simpa using h5
            by_cases h6 : g < 0
            · have e6 : decide (g < 0) = true := by simpa using h6
              go_wp2_with fail
              go_ret2
              refine ⟨⟨_, _, rfl⟩, HT.out.post H.out HL.out (by omega) hl true (by simpa using HS3.out) (fun q hq => ?_) rfl rfl rfl (by simp)⟩
              rw [Below.heap_setCell _ _ _ _ hq, Below.heap_setCell _ _ _ _ hq, Below.heap_setCell _ _ _ _ hq]
            · have e6 : decide (g < 0) = false := by simpa using h6
              cases e7 : (s.wk == g)
              · go_wp2_with fail
                go_ret2
                refine ⟨⟨_, _, rfl⟩, HT.out.post H.out HL.out (by omega) hl s.st (by simpa using HS.out) (fun q hq => ?_) rfl rfl rfl (by simp)⟩
                rw [Below.heap_setCell _ _ _ _ hq, Below.heap_setCell _ _ _ _ hq]
              · go_wp2_with fail
                go_ret2
                refine ⟨⟨_, _, rfl⟩, HT.out.post H.out HL.out (by omega) hl true (by simpa using HS3.out) (fun q hq => ?_) rfl rfl rfl (by simp)⟩
                rw [Below.heap_setCell _ _ _ _ hq, Below.heap_setCell _ _ _ _ hq, Below.heap_setCell _ _ _ _ hq]
          · have e5 : decide (s.wk ≥ 0) = false := by simp; omega
            go_wp2_with fail
            go_ret2
            refine ⟨⟨_, _, rfl⟩, HT.out.post H.out HL.out (by omega) hl s.st (by simpa using HS.out) (fun q hq => ?_) rfl rfl rfl (by simp)⟩
            rw [Below.heap_setCell _ _ _ _ hq, Below.heap_setCell _ _ _ _ hq]

end Go.Proofs.Ytjggnhcdnfmmeaa
