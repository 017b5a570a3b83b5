/- What this text holds: a machine beside the copy that it was made of, whose lists are turned. No condition. -/
import Derived.Test.YtkobeajbiendlaaDoorCp11A
namespace Go.Proofs.YtkobeajbiendlaaDoor
open Go.RowKit

/-- Cells that may be written. -/
def Rm (W : World) (b n : Nat) : Prop := b < W.heap.size ∧ ∀ i, i < n → (∃ v, W.cell? ⟨b, i, none⟩ = some v) ∧ W.frozen? ⟨b, i, none⟩ = false
theorem Rm.set {W : World} {b n : Nat} (h : Rm W b n) (a : Addr) (v : Value) : Rm (W.setCell a v) b n := by
  refine ⟨by simpa using h.1, fun i hi => ?_⟩
  obtain ⟨⟨u, hu⟩, hf⟩ := h.2 i hi
  refine ⟨?_, by simpa using hf⟩
  by_cases e : a = ⟨b, i, none⟩
  · subst e
    exact ⟨v, World.cell?_setCell_same _ _ _ hu⟩
  · exact ⟨u, by rw [World.cell?_setCell_other _ _ _ _ e]; exact hu⟩
theorem Rm.ext {W V : World} {b n : Nat} (h : Rm W b n) (hb : Below W.heap.size W V) : Rm V b n :=
  ⟨Nat.lt_of_lt_of_le h.1 hb.size, fun i hi => by
    obtain ⟨⟨u, hu⟩, hf⟩ := h.2 i hi
    exact ⟨⟨u, (hb.cell (p := ⟨b, i, none⟩) h.1).trans hu⟩, (hb.frozen (p := ⟨b, i, none⟩) h.1).trans hf⟩⟩
theorem row_rm {w : World} {base e size n c b m : Nat} {xs : List Value} (h : w.ownsRow base e size (.slice (some ⟨b, 0, none⟩) n c) n xs) (hm : xs.length = m) : Rm w b m :=
  ⟨(h.lt b rfl).2, fun i hi => ⟨⟨xs[i]'(by omega), own_cell h (List.getElem?_eq_getElem (by omega))⟩, own_free h i⟩⟩
/-- A machine beside the copy that it was made of. -/
structure Dv (w wr : World) (lo hi p cb bP bB bC bD : Nat) (M : Ma) (c : Cfg) (A B C D : Option Addr) (l : List Pr) (ws os ds : List Int) (c1 c2 c3 c4 c5 c6 c7 c8 : Nat) (Q : Nat → Option Addr × Nat) (f : Bool) : Prop where
  lw : Lw w wr lo hi p M c A B C D l ws os ds c1 c2 c3 c4
  box : wr.heap[cb]? = some (.cells #[.int .i64 c.co, .int .i64 c.gr, .int .i64 c.se, .int .i64 c.wa, .int .i64 c.de, .int .i64 c.en, .int .i64 c.ba, .slice (some ⟨bP, 0, none⟩) l.length c5, .slice (some ⟨bB, 0, none⟩) ws.length c6, .slice (some ⟨bC, 0, none⟩) os.length c7, .slice (some ⟨bD, 0, none⟩) ds.length c8] 69 (0, 0))
  pr : f = true → ∀ i, i < l.length → wr.cell? ⟨bP, i, none⟩ = some (qV Q l i)
  rq : ∀ i, i < l.length → 0 < (atR l i).ps.length → ∃ b, (Q i).1 = some ⟨b, 0, none⟩ ∧ Rm wr b ((atR l i).ps.length * 4) ∧ w.heap.size < b ∧ b < lo ∧ b ≠ cb ∧ b ≠ bP
  rB : Rm wr bB ws.length ∧ w.heap.size < bB ∧ bB < lo ∧ bB ≠ cb ∧ bB ≠ bP
  rC : Rm wr bC os.length ∧ w.heap.size < bC ∧ bC < lo ∧ bC ≠ cb
  rD : Rm wr bD ds.length ∧ w.heap.size < bD ∧ bD < lo ∧ bD ≠ cb
  bd : w.heap.size < cb ∧ cb < lo ∧ w.heap.size < bP ∧ bP < wr.heap.size
section
variable {w wr w2 : World} {lo hi p cb bP bB bC bD : Nat} {M : Ma} {c : Cfg} {A B C D : Option Addr} {l : List Pr} {ws os ds : List Int} {c1 c2 c3 c4 c5 c6 c7 c8 : Nat} {Q : Nat → Option Addr × Nat} {f : Bool}
theorem Dv.set (h : Dv w wr lo hi p cb bP bB bC bD M c A B C D l ws os ds c1 c2 c3 c4 c5 c6 c7 c8 Q f) {b : Nat} (hb : w.heap.size < b ∧ b < lo ∧ b ≠ cb) (hp : f = true → b ≠ bP) (o : Nat) (v : Value) : Dv w (wr.setCell ⟨b, o, none⟩ v) lo hi p cb bP bB bC bD M c A B C D l ws os ds c1 c2 c3 c4 c5 c6 c7 c8 Q f := by
  obtain ⟨h1, h2, h3⟩ := hb
  refine ⟨⟨⟨h.lw.wb.be.setCell (p := ⟨b, o, none⟩) (by simp; omega) _, (Below.heap_setCell _ _ _ _ (by simp; omega)).trans h.lw.wb.box⟩, h.lw.mc.keep (fun k k1 k2 => Below.heap_setCell _ _ _ _ (by simp; omega)) (by simp), h.lw.gd, h.lw.hc, h.lw.hl⟩, (Below.heap_setCell _ _ _ _ (fun e => h3 e.symm)).trans h.box, fun hf i hi => ?_, fun i hi h0 => ?_, ⟨h.rB.1.set _ _, h.rB.2⟩, ⟨h.rC.1.set _ _, h.rC.2⟩, ⟨h.rD.1.set _ _, h.rD.2⟩, h.bd.1, h.bd.2.1, h.bd.2.2.1, by simpa using h.bd.2.2.2⟩
  · exact (World.cell?_of_block (a := ⟨bP, i, none⟩) (Below.heap_setCell _ _ _ _ (fun e => hp hf e.symm))).trans (h.pr hf i hi)
  · obtain ⟨b', h1', h2', h3'⟩ := h.rq i hi h0
    exact ⟨b', h1', h2'.set _ _, h3'⟩
theorem Dv.off (h : Dv w wr lo hi p cb bP bB bC bD M c A B C D l ws os ds c1 c2 c3 c4 c5 c6 c7 c8 Q f) : Dv w wr lo hi p cb bP bB bC bD M c A B C D l ws os ds c1 c2 c3 c4 c5 c6 c7 c8 Q false := { h with pr := fun e => by cases e }
/-- Behind the making of the machine. -/
theorem Cw.made {A2 A3 A4 A5 : Option Addr} (h : Cw w wr cb l.length c A B C D l ws os ds c1 c2 c3 c4 A2 c5 Q (.slice A3 ws.length c6) (.slice A4 os.length c7) (.slice A5 ds.length c8) ws os ds) (hb : Below wr.heap.size wr w2) (hm : Mc w2 lo hi p M) (hg : M.Good) (hc : M.m.c = c) (hlo : wr.heap.size ≤ lo) (h1 : 0 < l.length) (h2 : 0 < ws.length) (h3 : 0 < os.length) (h4 : 0 < ds.length) :
    ∃ bP bB bC bD, A2 = some ⟨bP, 0, none⟩ ∧ A3 = some ⟨bB, 0, none⟩ ∧ A4 = some ⟨bC, 0, none⟩ ∧ A5 = some ⟨bD, 0, none⟩ ∧ Dv w w2 lo hi p cb bP bB bC bD M c A B C D l ws os ds c1 c2 c3 c4 c5 c6 c7 c8 Q true := by
  obtain ⟨bP, rfl⟩ := row_some11 h.row h1
  obtain ⟨bB, rfl⟩ := row_some11 h.r2 h2
  obtain ⟨bC, rfl⟩ := row_some11 h.r3 h3
  obtain ⟨bD, rfl⟩ := row_some11 h.r4 h4
  have hk := h.ext hb
  have hcb := h.hc
  have hcl := lt_of h.box
  have p1 : cb + 1 ≤ bP := own_ge h.row rfl
  have p2 : bP < wr.heap.size := (h.row.lt bP rfl).2
  have q1 : cb + 1 ≤ bB := own_ge h.r2 rfl
  have q2 : bB < wr.heap.size := (h.r2.lt bB rfl).2
  have r1 : cb + 1 ≤ bC := own_ge h.r3 rfl
  have r2 : bC < wr.heap.size := (h.r3.lt bC rfl).2
  have s1 : cb + 1 ≤ bD := own_ge h.r4 rfl
  have s2 : bD < wr.heap.size := (h.r4.lt bD rfl).2
  have hs := hb.size
  have hne : bB ≠ bP := fun e => h.ne bB rfl (by rw [e]; rfl)
  refine ⟨bP, bB, bC, bD, rfl, rfl, rfl, rfl, ⟨hk.wb, hm, hg, hc, by omega⟩, hk.box, fun _ i hi => own_cell hk.row (tab_at _ hi), fun i hi h0 => ?_, ⟨row_rm hk.r2 (by simp), by omega, by omega, by omega, hne⟩, ⟨row_rm hk.r3 (by simp), by omega, by omega, by omega⟩, ⟨row_rm hk.r4 (by simp), by omega, by omega, by omega⟩, by omega, by omega, by omega, by omega⟩
  obtain ⟨g1, g2⟩ := hk.pg i hi
  have g3 := (h.pg i hi).1
  unfold qV at g1 g2 g3
  obtain ⟨b, hbq⟩ := row_some11 g1 h0
  rw [hbq] at g1 g2 g3
  have b1 : cb + 1 ≤ b := own_ge g1 rfl
  have b2 : b < wr.heap.size := (g3.lt b rfl).2
  exact ⟨b, hbq, row_rm g1 (flatI_len _), by omega, by omega, by omega, fun e => g2 b rfl (by rw [e]; rfl)⟩
end

end Go.Proofs.YtkobeajbiendlaaDoor
