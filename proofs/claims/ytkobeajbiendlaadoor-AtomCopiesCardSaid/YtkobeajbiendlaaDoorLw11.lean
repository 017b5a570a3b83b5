/- What this text holds: a world and a machine of it, side by side. No condition. -/
import Derived.Test.YtkobeajbiendlaaDoorFw11B
import Derived.Test.YtkobeajbiendlaaDoorAtmT
namespace Go.Proofs.YtkobeajbiendlaaDoor
open Go.RowKit

/-- A world and a machine of it, side by side. -/
structure Lw (w wr : World) (lo hi p : Nat) (M : Ma) (c : Cfg) (A B C D : Option Addr) (l : List Pr) (ws os ds : List Int) (c1 c2 c3 c4 : Nat) : Prop where
  wb : Wb w wr w.heap.size c A B C D l ws os ds c1 c2 c3 c4
  mc : Mc wr lo hi p M
  gd : M.Good
  hc : M.m.c = c
  hl : w.heap.size < lo
section
variable {w a b : World} {lo hi p : Nat} {M M' : Ma} {c : Cfg} {A B C D : Option Addr} {l : List Pr} {ws os ds : List Int} {c1 c2 c3 c4 : Nat}
theorem Lw.ext (h : Lw w a lo hi p M c A B C D l ws os ds c1 c2 c3 c4) (hb : Below a.heap.size a b) : Lw w b lo hi p M c A B C D l ws os ds c1 c2 c3 c4 := ⟨h.wb.ext hb, h.mc.ext hb, h.gd, h.hc, h.hl⟩
theorem Wb.rg {lo' hi' n : Nat} (h : Wb w a n c A B C D l ws os ds c1 c2 c3 c4) (hr : Rg lo' hi' a b) (hl : n < lo') (hw : w.heap.size ≤ lo') : Wb w b n c A B C D l ws os ds c1 c2 c3 c4 := ⟨hr.below h.be hw, (hr.block _ (lt_of h.box) (.inl hl)).trans h.box⟩
theorem Lw.step (h : Lw w a lo hi p M c A B C D l ws os ds c1 c2 c3 c4) (hm : Mc b lo hi p M') (hg : M'.Good) (hc : M'.m.c = M.m.c) (hr : Rg lo hi a b) : Lw w b lo hi p M' c A B C D l ws os ds c1 c2 c3 c4 :=
  ⟨h.wb.rg hr h.hl (Nat.le_of_lt h.hl), hm, hg, hc.trans h.hc, h.hl⟩
theorem Lw.rg {lo' hi' : Nat} (h : Lw w a lo hi p M c A B C D l ws os ds c1 c2 c3 c4) (hr : Rg lo' hi' a b) (hd : hi ≤ lo' ∨ hi' ≤ lo) (hl : w.heap.size < lo') : Lw w b lo hi p M c A B C D l ws os ds c1 c2 c3 c4 :=
  ⟨h.wb.rg hr hl (Nat.le_of_lt hl), h.mc.rg hr hd, h.gd, h.hc, h.hl⟩
end
end Go.Proofs.YtkobeajbiendlaaDoor
