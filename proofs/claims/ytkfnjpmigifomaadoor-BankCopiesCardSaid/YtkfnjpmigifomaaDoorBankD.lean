/- What this text holds: a memory's Scrub. Condition: the table of limits holds what its initialiser lays. -/
import Derived.Test.YtkfnjpmigifomaaDoorBankC
import Derived.Test.YtkfnjpmigifomaaDoorLinesOf
import Derived.Test.YtkfnjpmigifomaaDoorRst
namespace Go.Proofs.YtkfnjpmigifomaaDoor
open Go.RowKit Go.Shelf
attribute [local go_sem] Oper.semAt_some

theorem Bk.hold {w w' : World} {lo hi n p q : Nat} {R : Nat → Value} {m : Mm} (h : Bk w lo hi n p q R m) {row : Option Nat} (hg : w.grownBy w' row) (hr : ∀ r, row = some r → ∃ o : Obj, w.heap[r]? = some o ∧ o.isCells = false) : Bk w' lo hi n p q R m := by
  have hrow : ∀ {v : Value} {base e size n : Nat} {xs : List Value}, w.ownsRow base e size v n xs → ∀ g, v.ownBlock = some g → w'.heap[g]? = w.heap[g]? := fun ho g hgb => by
    rcases ho.2 with ⟨h0, _⟩ | ⟨b, cap, cur, h1, _, h3, _⟩
    · rw [h0] at hgb; cases hgb
    · rw [h1] at hgb
      obtain rfl := Option.some.inj hgb
      exact (blk_held h3 hg hr).trans h3.symm
  obtain ⟨cp, t1, t2⟩ := h.top
  exact ⟨h.ok, ⟨cp, blk_held t1 hg hr, row_keep t2 (hrow t2)⟩, fun i hi' => row_keep (h.ln i hi') (hrow (h.ln i hi')), h.up, h.bd, Nat.le_trans h.sz hg.size, h.gl⟩
theorem Bm.hold {w w' : World} {lo hi p : Nat} {m : Mm} (h : Bm w lo hi p m) {row : Option Nat} (hg : w.grownBy w' row) (hr : ∀ r, row = some r → ∃ o : Obj, w.heap[r]? = some o ∧ o.isCells = false) : Bm w' lo hi p m := by
  obtain ⟨q, R, h⟩ := h; exact ⟨q, R, h.hold hg hr⟩
theorem ownFrom_rg {β : Type} {lo hi B : Nat} {w₀ : World} (hB : w₀.heap.size ≤ B) : OwnFrom B (fun (_ : β) W => Rg lo hi w₀ W) := fun _ A C row hs hg hr =>
  ⟨hg.os.trans hs.os, hg.tape.trans hs.tape, hg.output.trans hs.output, Nat.le_trans hs.size hg.size, fun k hk hn => (hg.block k (Nat.lt_of_lt_of_le hk hs.size) (fun e => by have := (hr k e.symm).1; omega)).trans (hs.block k hk hn)⟩
theorem Rg.from {lo hi B : Nat} {w w' : World} (h : Rg lo hi w w') (hB : hi ≤ B) : KeepsFrom B w w' :=
  ⟨h.size, fun k o hk1 hk2 _ => (h.block k (Array.getElem?_eq_some_iff.1 hk2).1 (.inr (by omega))).trans hk2⟩
/-- A memory behind the Writes of zero to lines. -/
def Mm.zeros (m : Mm) (ls : List Nat) : Mm := ls.foldl (fun m l => m.put l 0 0) m
theorem Mm.put_c (m : Mm) (l : Nat) (x y : Int) : (m.put l x y).c = m.c := rfl
theorem Mm.zeros_snoc (m : Mm) (ls : List Nat) (l : Nat) : m.zeros (ls ++ [l]) = (m.zeros ls).put l 0 0 := by simp [Mm.zeros]
theorem Mm.zeros_c (m : Mm) (ls : List Nat) : (m.zeros ls).c = m.c := by
  induction ls generalizing m with
  | nil => rfl
  | cons l ls ih => exact (ih (m.put l 0 0)).trans rfl
def lnN {c : Cfg} {g : Int} (l : List (Ln c g)) : List Nat := l.map fun x => x.1.toNat

theorem Lims.keepR {w w' : World} {lo hi : Nat} (h : Lims w) (hr : Rg lo hi w w') (hl : 1 < lo) : Lims w' := by
  obtain ⟨t, fr, h0⟩ := h
  exact ⟨t, fr, (hr.block _ (lt_of h0) (.inl hl)).trans h0⟩
theorem bscrub_nil (x : Int) (w : World) : Calls Tryd.prog 25 #[.pointer none, .int .i64 x] w fun e w' => e = .returned (.int .i64 2) ∧ Below w.heap.size w w' := by
  go_enter Tryd.func25, Tryd.ntmps25
  go_wp2_with fail
  refine bodyPost_ret (v := .int .i64 2) (by simp [results, Tryd.f25, go_sem]) rfl ?_
  exact ⟨rfl, (by repeat (with_reducible first | exact Below.refl _ _ | assumption | (refine ext_next (by assumption) ?_) | apply ext_alloc | apply ext_past | apply ext_drew | apply ext_drewN))⟩
set_option maxHeartbeats 1000000 in
theorem bscrub_no {w : World} {lo hi p : Nat} {m : Mm} (h : Bm w lo hi p m) (g : Int) (hg : g < 0 ∨ m.c.gr ≤ g) :
    Calls Tryd.prog 25 #[.pointer (some ⟨p, 0, none⟩), .int .i64 g] w fun e w' => e = .returned (.int .i64 10) ∧ Below w.heap.size w w' := by
  obtain ⟨q, R, h⟩ := h
  obtain ⟨cp, k0, k1, k2, k3, k4, k5, k6, k7, hcp⟩ := h.tops
  obtain ⟨hp, hq⟩ := h.lt
  clear h
  by_cases h0 : g < 0
  · have e0 : decide (g < 0) = true := by simpa using h0
    go_enter Tryd.func25, Tryd.ntmps25
    go_wp2_with fail
    refine bodyPost_ret (v := .int .i64 10) (by simp [results, Tryd.f25, go_sem]) rfl ?_
    exact ⟨rfl, (by repeat (with_reducible first | exact Below.refl _ _ | assumption | (refine ext_next (by assumption) ?_) | apply ext_alloc | apply ext_past | apply ext_drew | apply ext_drewN))⟩
  · have e0 : decide (g < 0) = false := by simpa using h0
    have e1 : decide (g ≥ m.c.gr) = true := by simp; omega
    go_enter Tryd.func25, Tryd.ntmps25
    go_wp2_with fail
    refine bodyPost_ret (v := .int .i64 10) (by simp [results, Tryd.f25, go_sem]) rfl ?_
    exact ⟨rfl, (by repeat (with_reducible first | exact Below.refl _ _ | assumption | (refine ext_next (by assumption) ?_) | apply ext_alloc | apply ext_past | apply ext_drew | apply ext_drewN))⟩

set_option maxRecDepth 100000 in
set_option maxHeartbeats 4000000 in
theorem bscrub_ok {w : World} {lo hi p : Nat} {m : Mm} (h : Bm w lo hi p m) (hL : Lims w) (g : Int) (h0 : 0 ≤ g) (hg : g < m.c.gr) :
    Calls Tryd.prog 25 #[.pointer (some ⟨p, 0, none⟩), .int .i64 g] w fun e w' => e = .returned (.int .i64 0) ∧ Bm w' lo hi p (m.zeros (lnN (lns m.c g))) ∧ Rg lo hi w w' := by
  refine (callsIn_wide (n := 6)).1 ?_
  have hro : Fence.wide.round = none := rfl
  refine callsIn_of_wp_marks Tryd.func25 rfl trivial ?_ hro
  simp only [Tryd.ntmps25, List.size_toArray, List.length_cons, List.length_nil, Nat.reduceAdd, Nat.reduceSub, Array.replicate_succ, Array.replicate_zero, List.push_toArray, List.append_toArray, List.nil_append, List.cons_append]
  have HL := Lib.hid hL
  have HB := Lib.hid h
  have HS := Lib.hid h.sz
  have hps : p < w.heap.size := by have := h.sz; omega
  obtain ⟨q, R, hk⟩ := h
  obtain ⟨cp, k0, k1, k2, k3, k4, k5, k6, k7, hcp⟩ := hk.tops
  have e0 : decide (g < 0) = false := by simp; omega
  have e1 : decide (g ≥ m.c.gr) = false := by simp; omega
  clear hL h0 hg hk
  gi_wp2_with fail
  refine ⟨trivial, (callsIn_wide.2 (linesof_any m.c g _)).mono ?_⟩
  rintro e w1 ⟨rfl, hw⟩
  subst hw
  clear k0 k1 k2 k3 k4 k5 k6 k7 e0 e1
  gi_wp2_with fail
  obtain ⟨W0, hW0⟩ : ∃ W0, W0 = (((w.alloc (.cells #[.pointer (some ⟨p, 0, none⟩)] 32)).alloc (.cells #[.int .i64 0] 33)).alloc (.cells #[.int .i64 m.c.co, .int .i64 m.c.gr, .int .i64 m.c.se, .int .i64 m.c.wa, .int .i64 m.c.de, .int .i64 m.c.en, .int .i64 m.c.ba] 23)).alloc (.cells #[.int .i64 g] 3) := ⟨_, rfl⟩
  have hb0 : Below w.heap.size w W0 := by rw [hW0]; exact (by repeat (with_reducible first | exact Below.refl _ _ | assumption | (refine ext_next (by assumption) ?_) | apply ext_alloc | apply ext_past | apply ext_drew | apply ext_drewN))
  have hm0 : W0.heap[w.heap.size]? = some (.cells #[.pointer (some ⟨p, 0, none⟩)] 32 (0, 0)) := by rw [hW0]; exact alOld (alOld (alOld (alNew (by simp))))
  have he0 : W0.heap[w.heap.size + 1]? = some (.cells #[.int .i64 0] 33 (0, 0)) := by rw [hW0]; exact alOld (alOld (alNew (by simp)))
  have hx0 : W0.heap[w.heap.size + 1 + 1]? = some (.cells #[.int .i64 m.c.co, .int .i64 m.c.gr, .int .i64 m.c.se, .int .i64 m.c.wa, .int .i64 m.c.de, .int .i64 m.c.en, .int .i64 m.c.ba] 23 (0, 0)) := by rw [hW0]; exact alOld (alNew (by simp))
  have hg0 : W0.heap[w.heap.size + 1 + 1 + 1]? = some (.cells #[.int .i64 g] 3 (0, 0)) := by rw [hW0]; exact alNew (by simp)
  have hs0 := lt_of hg0
  rw [← hW0]
  clear hW0
  refine wpIn_rangeFunc_var [(5, 0)] hro (by omega) (gf := 91) (lb := #[.pointer (some ⟨w.heap.size + 1 + 1, 0, none⟩), .pointer (some ⟨w.heap.size + 1 + 1 + 1, 0, none⟩)]) rfl trivial (enters_of Tryd.func91 (by kernel_rfl) rfl)
    (linesOf_stops (6 - 1) (by omega) m.c g (w.heap.size + 1 + 1) W0 (HL.out.ext hb0) hs0 hx0 hg0) (fun h k => h.trans k) (fun _ => ⟨rfl, rfl⟩) (fun W l o o' hl ho hc hw => ?kp) (Below.refl _ _) (fun _ => rfl)
    (fun pre W => (W.heap[w.heap.size]? = some (.cells #[.pointer (some ⟨p, 0, none⟩)] 32 (0, 0)) ∧ W.heap[w.heap.size + 1]? = some (.cells #[.int .i64 0] 33 (0, 0)) ∧ Bm W lo hi p (m.zeros (lnN pre))) ∧ Rg lo hi W0 W)
    (fun _ _ _ => False)
    (OwnFrom.and (Own.from (fun s A B row hs hg hr => ⟨blk_held hs.1 hg hr, blk_held hs.2.1 hg hr, hs.2.2.hold hg hr⟩) _) (ownFrom_rg (Nat.le_refl _)))
    (fun cc _ _ _ _ h _ _ => h)
    ⟨⟨hm0, he0, HB.out.ext hb0⟩, Rg.refl _ _ _⟩ ?assign ?body ?done ?stop
  case kp => exact ⟨World.putObj_heap_other (by omega), World.putObj_heap_other (by omega)⟩
  case assign =>
    intro l y W K hK
    unfold varFrame at hK
    simp at hK
    gi_wp2
    exact hK
  case body =>
    rintro l pre x W hl hr ⟨⟨hm, he, hbm⟩, hB⟩ hlen
    obtain ⟨hh, hx1⟩ := x.2
    have hxn : x.1 = ((x.1.toNat : Nat) : Int) := by have := hh.2.1; omega
    have hln : x.1.toNat < (m.zeros (lnN pre)).n := by
      have h1 := lin_ok hh.1
      have h2 := hh.2
      unfold Mm.n
      rw [Mm.zeros_c]
      omega
    have hLW : Lims W := (HL.out.ext hb0).keepR hB HB.out.gl
    have HW := bwrite_ok hbm hLW x.1.toNat hln 0 0
    rw [← hxn] at HW
    have HW := Lib.hid HW
    have HM := Lib.hid hm
    have HE := Lib.hid he
    have HX := Lib.hid hB
    have km := cell_of hm
    have kl := lt_of hm
    clear hm he hbm hB hh hx1 hxn hln hLW hr hm0 he0 hx0 hg0 hlen
    unfold varFrame
    gi_wp2_with fail
    refine ⟨trivial, (CallsIn.inRound l (callsIn_wide.2 HW.out)).mono ?_⟩
    rintro e w3 ⟨rfl, hbm, hrg⟩
    have hm3 := HM.out
    have he3 := HE.out
    gi_wp2_with fail
    have hle : hi ≤ w.heap.size := HS.out.1
    have hsz := HX.out.size
    exact ⟨hrg.from (by omega), ⟨hrg.block _ (by omega) (.inr (by omega)), hrg.block _ (by omega) (.inr (by omega))⟩, ⟨(hrg.block _ kl (.inr hle)).trans HM.out, (hrg.block _ (lt_of he3) (.inr (by omega))).trans HE.out, by rw [show lnN (pre ++ [x]) = lnN pre ++ [x.1.toNat] by simp [lnN], Mm.zeros_snoc]; exact hbm⟩, HX.out.trans hrg⟩
  case done =>
    rintro D ys W hD rfl ⟨⟨hm, he, hbm⟩, hB⟩ hK
    have ke := cell_of he
    have kf := free_of he
    have kl := lt_of he
    have HBM := Lib.hid hbm
    clear hm hbm hm0 he0 hx0 hg0
    gi_wp2_with fail
    have hK2 : (W.setCell ⟨w.heap.size + 1, 0, none⟩ (.int .i64 0)).heap[D]? = some (.deferred (some [])) := (Below.heap_setCell _ _ _ _ (by show D ≠ w.heap.size + 1; omega)).trans hK
    refine ⟨by simp, .inl ⟨_, _, rfl, run_takeDeferred hK2, ?_⟩⟩
    refine ⟨.int .i64 0, ?_, rfl, ?_⟩
    · have hh : ((W.setCell ⟨w.heap.size + 1, 0, none⟩ (.int .i64 0)).putObj D (.deferred none)).heap[w.heap.size + 1]? = some (.cells #[.int .i64 0] 33 (0, 0)) := (World.putObj_heap_other (by omega)).trans (set_of he)
      simp [results, Tryd.f25, go_sem, cell_of hh]
    · have hle : hi ≤ w.heap.size := HS.out.1
      have hr2 : Rg w.heap.size (D + 1) W ((W.setCell ⟨w.heap.size + 1, 0, none⟩ (.int .i64 0)).putObj D (.deferred none)) :=
        (Rg.set W _ (by omega) (by omega)).trans ⟨rfl, rfl, rfl, by simp, fun k _ hn => World.putObj_heap_other (by omega)⟩
      refine ⟨HBM.out.rg hr2 (.inl hle), ?_⟩
      have hr3 := (Rg.of_below (lo := lo) (hi := hi) hb0).trans hB
      exact ⟨hr3.os, hr3.tape, hr3.output, by simpa using hr3.size, fun k hk hn => (hr2.block k (by have := hr3.size; omega) (.inl hk)).trans (hr3.block k hk hn)⟩
  case stop => exact fun _ _ _ _ _ _ h _ => h.elim

end Go.Proofs.YtkfnjpmigifomaaDoor
