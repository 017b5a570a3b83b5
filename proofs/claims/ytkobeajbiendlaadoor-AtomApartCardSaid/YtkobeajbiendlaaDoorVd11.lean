/- What this text holds: other words for a machine: a world's box whose words are being made; what a machine of these agrees on. No condition. -/
import Derived.Test.YtkobeajbiendlaaDoorL11D
import Derived.Test.YtkobeajbiendlaaDoorSub
namespace Go.Proofs.YtkobeajbiendlaaDoor
open Go.RowKit

/-- The word at a place: its own where the world may have it, the other one elsewhere. -/
def vat (k : Int) (os ds oth : List Int) (i : Nat) : Int := if mayT k (os[i / 4]?.getD 0) then ds[i]?.getD 0 else oth[i]?.getD 0
def vpre (k : Int) (os ds oth : List Int) : Nat → List Int
  | 0 => []
  | n + 1 => vpre k os ds oth n ++ [vat k os ds oth n]
theorem vpre_len (k : Int) (os ds oth : List Int) : ∀ n, (vpre k os ds oth n).length = n
  | 0 => rfl
  | n + 1 => by simp [vpre, vpre_len k os ds oth n]
theorem vpre_at (k : Int) (os ds oth : List Int) : ∀ n i, i < n → (vpre k os ds oth n)[i]? = some (vat k os ds oth i)
  | 0, i, h => by omega
  | n + 1, i, h => by
    unfold vpre
    by_cases hi : i < n
    · rw [List.getElem?_append_left (by rw [vpre_len]; exact hi)]
      exact vpre_at k os ds oth n i hi
    · obtain rfl : i = n := by omega
      rw [List.getElem?_append_right (by rw [vpre_len]; omega), vpre_len]
      simp
theorem newE11_len {c : Cfg} {l : List Pr} {ws os ds ds' : List Int} (h : ds'.length = ds.length) : newE11 c l ws os ds' = newE11 c l ws os ds := by unfold newE11; rw [h]
/-- The world's box whose words are being made. -/
structure Vd (w wr : World) (bv : Nat) (vl : List Int) (c : Cfg) (A B C D : Option Addr) (l : List Pr) (ws os ds : List Int) (c1 c2 c3 c4 : Nat) : Prop where
  wb : Wb w wr w.heap.size c A B C D l ws os ds c1 c2 c3 c4
  lt : w.heap.size < bv
  bx : ∃ F cf, wr.heap[bv]? = some (.cells #[.int .i64 c.co, .int .i64 c.gr, .int .i64 c.se, .int .i64 c.wa, .int .i64 c.de, .int .i64 c.en, .int .i64 c.ba, .slice A l.length c1, .slice B ws.length c2, .slice C os.length c3, .slice F vl.length cf] 69 (0, 0)) ∧
    wr.ownsRow (bv + 1) 3 1 (.slice F vl.length cf) vl.length (vl.map (Value.int .i64))
theorem agr_new {c : Cfg} {l : List Pr} {ws os ds oth : List Int} {k : Int} (h : newE11 c l ws os ds = 0) : Twn (maNew c l ws os ds l.length) (maNew c l ws os (vpre k os ds oth ds.length) l.length) ∧ Agr (maNew c l ws os ds l.length) (maNew c l ws os (vpre k os ds oth ds.length) l.length) k := by
  have hg : (maNew c l ws os ds l.length).Good := Ma.Good.new h
  have hn := Ma.n_of hg.1
  refine ⟨⟨rfl, fun _ _ => rfl⟩, ⟨fun _ _ => rfl, fun x hx hm => ?_, fun _ _ _ => ⟨fun _ _ => rfl, rfl, rfl, rfl⟩⟩⟩
  have hm : mayT k (os[x / 4]?.getD 0) = true := hm
  have hds : (ds.length : Int) = 4 * c.gr := by
    unfold newE11 at h
    split at h
    · cases h
    split at h
    · cases h
    · rename_i _ h2
      omega
  have hgr : (((maNew c l ws os ds l.length).ng : Nat) : Int) = c.gr := hn.2.2.2.1
  have hxl : x < ds.length := by omega
  show wdNew ds ds.length x = wdNew (vpre k os ds oth ds.length) (vpre k os ds oth ds.length).length x
  unfold wdNew
  rw [if_pos hxl, if_pos (by rw [vpre_len]; exact hxl), vpre_at k os ds oth _ x hxl]
  simp [vat, hm]
theorem Rg.box {lo hi bx : Nat} {a b d : World} (h : Rg lo hi a b) (hg : b.grownBy d (some bx)) (hb : a.heap.size ≤ bx) : Rg lo hi a d :=
  ⟨hg.os.trans h.os, hg.tape.trans h.tape, hg.output.trans h.output, Nat.le_trans h.size hg.size, fun k hk hc => (hg.block k (Nat.lt_of_lt_of_le hk h.size) (fun e => by have := Option.some.inj e; omega)).trans (h.block k hk hc)⟩
theorem Rg.extl {lo hi : Nat} {a b d : World} (h : Below a.heap.size a b) (k : Rg lo hi b d) : Rg lo hi a d :=
  ⟨k.os.trans h.os, k.tape.trans h.tape, k.output.trans h.output, Nat.le_trans h.size k.size, fun j hj hc => (k.block j (Nat.lt_of_lt_of_le hj h.size) hc).trans (h.block j hj)⟩
theorem Rg.extr {lo hi : Nat} {a b d : World} (h : Rg lo hi a b) (k : Below b.heap.size b d) : Rg lo hi a d :=
  ⟨k.os.trans h.os, k.tape.trans h.tape, k.output.trans h.output, Nat.le_trans h.size k.size, fun j hj hc => (k.block j (Nat.lt_of_lt_of_le hj h.size)).trans (h.block j hj hc)⟩
theorem Mc.boxed {a b : World} {lo hi p bx : Nat} {M : Ma} (h : Mc a lo hi p M) (hg : a.grownBy b (some bx)) (hb : hi ≤ bx) : Mc b lo hi p M :=
  h.keep (fun k h1 h2 => hg.block k (by have := h.sz; omega) (fun e => by cases e; omega)) hg.size
/-- A word more. -/
theorem Vd.next {w wr w2 : World} {bv : Nat} {vl : List Int} {c : Cfg} {A B C D G A3 : Option Addr} {l : List Pr} {ws os ds : List Int} {c1 c2 c3 c4 cf c7 n : Nat} {o : Obj} (h : Vd w wr bv vl c A B C D l ws os ds c1 c2 c3 c4) (hn : vl.length = n)
    (hG : wr.heap[bv]? = some (.cells #[.int .i64 c.co, .int .i64 c.gr, .int .i64 c.se, .int .i64 c.wa, .int .i64 c.de, .int .i64 c.en, .int .i64 c.ba, .slice A l.length c1, .slice B ws.length c2, .slice C os.length c3, .slice G n cf] 69 (0, 0)))
    (hrow : wr.ownsRow (bv + 1) 3 1 (.slice G n cf) n (vl.map (Value.int .i64))) (x : Int) (ho : w2.ownsRow (bv + 1) 3 1 (.slice A3 (n + 1) c7) (n + 1) (vl.map (Value.int .i64) ++ [.int .i64 x])) (hg : (wr.drew.alloc o).grownBy w2 (Value.slice G n cf).ownBlock) :
    Vd w (w2.setCell ⟨bv, 10, none⟩ (.slice A3 (n + 1) c7)) bv (vl ++ [x]) c A B C D l ws os ds c1 c2 c3 c4 := by
  have hlt := h.lt
  have hbl := lt_of hG
  have hwl := lt_of h.wb.box
  have hown : ∀ g, (Value.slice G n cf).ownBlock = some g → bv + 1 ≤ g := fun g e => (hrow.lt g e).1
  have hk : ∀ q, q < wr.heap.size → (∀ g, (Value.slice G n cf).ownBlock = some g → q ≠ g) → w2.heap[q]? = wr.heap[q]? := fun q hq hne => (hg.block q (by simp; omega) (fun e => hne q e.symm rfl)).trans (Below.heap_alloc _ _ _ hq)
  have hset := Joins.block_setCell (i := 10) ((hk bv hbl (fun g e => by have := hown g e; omega)).trans hG) (.slice A3 (n + 1) c7)
  have hb2 : Below w.heap.size w w2 := (ext_alloc o (ext_drew h.wb.be)).grown hg (ext_alloc o (ext_drew h.wb.be)).size (fun q e => by have := hown q e; omega)
  refine ⟨⟨hb2.setCell (p := ⟨bv, 10, none⟩) (by simp; omega) _, ?_⟩, hlt, A3, c7, ?_, ?_⟩
  · refine (Below.heap_setCell _ _ _ _ (by simp; omega)).trans ?_
    exact (hk _ hwl (fun g e => by have := hown g e; omega)).trans h.wb.box
  · rw [List.length_append, hn]
    simpa using hset
  · rw [List.length_append, hn, List.map_append]
    exact row_keep ho (fun g e => Below.heap_setCell _ _ _ _ (by have := (ho.lt g e).1; simp; omega))
end Go.Proofs.YtkobeajbiendlaaDoor
