/- What this text holds: what a fabric's All hands out, row by row, to any loop body. No condition. -/
import Derived.Test.YtkfnjpmigifomaaDoorFbR
import Derived.Test.YtkfnjpmigifomaaDoorRst
namespace Go.Proofs.YtkfnjpmigifomaaDoor
open Go.RowKit Go.Shelf
attribute [local go_sem] Oper.semAt_some

theorem yieldAt_any {n m l l' : Nat} {P : Program} {args : Array Value} {W : World} {R : Ending → World → Prop} (h : YieldAt Fence.wide n P l args W R) : YieldAt (Fence.wide.inRound l') m P l args W R := by
  obtain ⟨fn, tmps, assign, body, hy, h1, h2⟩ := h
  exact ⟨fn, tmps, assign, body, hy, h1, fun c cs _ => h2 c cs (room_wide _)⟩
theorem wpIn_scope_w {n : Nat} {P : Program} {c : Code} {Q : Exit → Act → World → Prop} {a : Act} {w : World} (h : c.wpIn Fence.wide n P (Exit.noGoto Q) a w) : (Code.scope c).wpIn Fence.wide n P Q a w :=
  wpIn_wide.2 (wp_scope_straight (wpIn_wide.1 h))
/-- All notes of some rows. -/
def flat (rs : List Rw) : List Nt := rs.flatMap Rw.xs
theorem flat_snoc (rs : List Rw) (r : Rw) : flat (rs ++ [r]) = flat rs ++ r.xs := by simp [flat]
theorem flat_pre {pre rs : List Rw} (h : pre <+: rs) : flat pre <+: flat rs := by
  obtain ⟨t, rfl⟩ := h
  simp [flat]
theorem flat_ok {pre rs : List Rw} {r : Rw} {p2 : List Nt} (h : pre ++ [r] <+: rs) (h2 : p2 <+: r.xs) : flat pre ++ p2 <+: flat rs := by
  have := flat_pre h
  rw [flat_snoc] at this
  exact ((List.prefix_append_right_inj _).2 h2).trans this
/-- The blocks of it. -/
def RK (b : Nat) (v : Value) (rs : List Rw) (k : Nat) : Prop := k = b ∨ v.ownBlock = some k ∨ ∃ r ∈ rs, k = r.b ∨ r.v.ownBlock = some k
def KeepF (b : Nat) (v : Value) (rs : List Rw) (W W' : World) : Prop := ∀ k, RK b v rs k → W'.heap[k]? = W.heap[k]?
section
variable {b : Nat} {v : Value} {rs : List Rw} {W W' W2 : World}
theorem KeepF.refl : KeepF b v rs W W := fun _ _ => rfl
theorem KeepF.trans (h : KeepF b v rs W W') (k : KeepF b v rs W' W2) : KeepF b v rs W W2 := fun i hi => (k i hi).trans (h i hi)
theorem KeepF.top (h : KeepF b v rs W W') : KeepN b v W W' := ⟨h b (.inl rfl), fun g hg => h g (.inr (.inl hg))⟩
theorem KeepF.row {r : Rw} (h : KeepF b v rs W W') (hr : r ∈ rs) : KeepN r.b r.v W W' := ⟨h _ (.inr (.inr ⟨r, hr, .inl rfl⟩)), fun g hg => h g (.inr (.inr ⟨r, hr, .inr hg⟩))⟩
theorem RV.lt (h : RV W b v rs) {k : Nat} (hk : RK b v rs k) : k < W.heap.size := by
  rcases hk with rfl | hk | ⟨r, hr, rfl | hk⟩
  · exact h.top.lt.1
  · exact h.top.lt.2 k hk
  · exact (h.row r hr).lt
  · exact ((h.row r hr).own.lt k hk).2
theorem RV.keepB {B : Nat} (h : RV W b v rs) (hb : Below B W W') (hB : W.heap.size ≤ B) : KeepF b v rs W W' := fun k hk => hb.block k (Nat.lt_of_lt_of_le (h.lt hk) hB)
theorem RV.keep (h : RV W b v rs) (hk : KeepF b v rs W W') : RV W' b v rs := ⟨h.top.keep hk.top, fun r hr => (h.row r hr).keep (hk.row hr)⟩
theorem RV.own {β : Type} {B : Nat} (h : RV W b v rs) (hB : W.heap.size ≤ B) : OwnFrom B (fun (_ : β) W' => KeepF b v rs W W') := fun s X Y row hs hg hr k hk => by
  have hk' := h.lt hk
  have hx := hs k hk
  refine (hg.block k ?_ (fun e => ?_)).trans hx
  · by_cases h2 : k < X.heap.size
    · exact h2
    · rw [Array.getElem?_eq_none (by omega), Array.getElem?_eq_getElem hk'] at hx
      cases hx
  · have := (hr k e.symm).1
    omega
end
theorem ownFrom_at {β γ : Type} {B B' : Nat} {J : β → World → Prop} (h : OwnFrom B J) (hB : B ≤ B') (f : γ → β) : OwnFrom B' (fun s W => J (f s) W) := fun s X Y row hs hg hr => h (f s) X Y row hs hg (fun r e => ⟨by have := (hr r e).1; omega, (hr r e).2⟩)
theorem ownFrom_blk {γ : Type} {B k : Nat} {o : Obj} (hk : k < B) : OwnFrom B (fun (_ : γ) W => W.heap[k]? = some o) := fun _ X Y row hs hg hr => (hg.block k (lt_of hs) (fun e => by have := (hr k e.symm).1; omega)).trans hs
set_option maxRecDepth 100000 in
set_option maxHeartbeats 4000000 in
theorem allF_runs (n : Nat) (hn : 4 ≤ n) (q b : Nat) (v : Value) (rs : List Rw) (w : World) (hq : w.heap[q]? = some (.cells #[.func (.func 104) #[] #[.pointer (some ⟨b, 0, none⟩)]] 136 (0, 0))) (h : RV w b v rs) (hx : rs.length ≤ 1000) (hxs : ∀ r ∈ rs, r.xs.length ≤ 1000) :
    SeqRuns Fence.wide n Tryd.prog 79 #[.pointer (some ⟨q, 0, none⟩)] (fun x : Nt => #[x.out]) (KeepF b v rs) (fun pre x => pre ++ [x] <+: flat rs) (fun ys => ys = flat rs) (fun pre => pre <+: flat rs) w := fun l J Jx W hW hl hJ hJx hY h0 => by
  have HN := Lib.hid (h.ext hW)
  have hqW : W.heap[q]? = _ := (hW.block _ (lt_of hq)).trans hq
  have ql := lt_of hqW
  have HJ := Lib.hid hJ
  have HJX := Lib.hid hJx
  have HY := Lib.hid hY
  have HXS := Lib.hid hxs
  have qc : W.cell? ⟨q, 0, none⟩ = some (.func (.func 104) #[] #[.pointer (some ⟨b, 0, none⟩)]) := cell_of hqW
  clear h hW hJ hJx hY hxs hq hqW
  have hro : Fence.wide.round = none := rfl
  refine callsIn_of_wp_marks Tryd.func79 rfl trivial ?_ hro
  simp only [Tryd.ntmps79, List.size_toArray, List.length_cons, List.length_nil, Nat.reduceAdd, Nat.reduceSub, Array.replicate_succ, Array.replicate_zero, List.push_toArray, List.append_toArray, List.nil_append, List.cons_append]
  gi_wp2_with fail
  refine wpIn_scope_w ?_
  gi_wp2_with fail
  refine wpIn_label ?_
  gi_wp2_with fail
  obtain ⟨W0, hW0⟩ : ∃ W0, W0 = W.alloc (.cells #[.func (.yield l) #[] #[]] 138) := ⟨_, rfl⟩
  rw [← hW0]
  have hb0 : Below W.heap.size W W0 := by rw [hW0]; exact ext_alloc _ (Below.refl _ _)
  have hy0 : W0.heap[W.heap.size]? = some (.cells #[.func (.yield l) #[] #[]] 138 (0, 0)) := by rw [hW0]; exact alNew rfl
  have hJ0 : J [] W0 := by rw [hW0]; exact HJ.out.alloc _ h0
  have hyl := lt_of hy0
  have HN0 := Lib.hid (HN.out.ext hb0)
  clear hW0 h0
  refine wpIn_rangeFunc_runs hro (by omega) (gf := 104) (lb := #[.pointer (some ⟨b, 0, none⟩)]) rfl trivial (enters_of Tryd.func104 (by kernel_rfl) rfl)
    (valuesS_runs (n - 1) (by omega) b v rs W0 HN0.out.top hx) (fun h k => h.trans k) (fun X l' o o' hl' ho hc hw => ?kp) (Below.refl _ _) (fun _ => rfl)
    (fun pre X => (X.heap[W.heap.size]? = some (.cells #[.func (.yield l) #[] #[]] 138 (0, 0)) ∧ J (flat pre) X) ∧ KeepF b v rs W0 X ∧ W0.heap.size ≤ X.heap.size)
    (fun cc pre X => (cc = .exit 0 ∧ ∃ p, p <+: flat rs ∧ Jx p X))
    (OwnFrom.and (OwnFrom.and (ownFrom_blk hyl) (ownFrom_at HJ.out (by omega) flat)) (OwnFrom.and (HN0.out.own (Nat.le_refl _)) (fun _ _ _ _ hs hg _ => Nat.le_trans hs hg.size)))
    (fun cc s X Y row hs hg hr => by
      obtain ⟨h1, p, h2, h3⟩ := hs
      exact ⟨h1, p, h2, HJX.out p X Y row h3 hg (fun r e => ⟨by have := (hr r e).1; omega, (hr r e).2⟩)⟩)
    ⟨⟨hy0, hJ0⟩, KeepF.refl, Nat.le_refl _⟩
    (fun x a' X => a' = varFrame { tmps := #[.func (.yield l) #[] #[], .pointer (some ⟨q, 0, none⟩), .pointer (some ⟨W.heap.size, 0, none⟩), undef, undef, .func (.func 104) #[] #[.pointer (some ⟨b, 0, none⟩)], undef, undef, undef, undef, undef, undef, undef], defers := [] } #[6] (fun x : Rw => #[x.fn]) [(3, 0)] x)
    (fun x a' => ownFrom_pure _ (fun _ => _)) ?assign ?body ?done ?stop
  case kp => exact ⟨World.putObj_heap_other (by have := HN0.out.top.lt.1; omega), fun g hg => World.putObj_heap_other (by have := HN0.out.top.lt.2 g hg; omega)⟩
  case assign =>
    rintro l2 pre x X K hok hI hK
    unfold varFrame at hK
    simp at hK
    gi_wp2
    exact hK _ _ (KA.refl _ _) (KeepN.refl _ _ _) hI.1.1 hI.1.2 hI.2.1 hI.2.2 rfl
  case body =>
    rintro l2 pre x a' X hl2 hr ⟨⟨hy, hj⟩, hk, hsz⟩ rfl hok
    have HK := Lib.hid hk
    have HRW := Lib.hid hr
    have HYB := Lib.hid hy
    have HJP := Lib.hid hj
    have HOK := Lib.hid hok
    have HIN : Hid (x ∈ rs) := Lib.hid (by
      obtain ⟨t, ht⟩ := hok
      rw [← ht]
      simp)
    have hxl : W0.heap.size ≤ X.heap.size := hsz
    clear hk hy hj hok hr
    unfold varFrame
    obtain ⟨xb, xv, xxs⟩ := x
    unfold Rw.fn
    gi_wp2_with fail
    obtain ⟨rr, hr⟩ := HRW.out
    have HNX := HN0.out.keep HK.out
    have hnv := HNX.row _ HIN.out
    have hxx := HXS.out _ HIN.out
    refine wpIn_rangeFunc_runsNB X.heap.size 4 BxN (fun x b W W' row hs hg hr => blk_held hs hg hr) (l₀ := l2) (r₀ := rr) rfl hr (by omega) (gf := 111) (lb := #[.pointer (some ⟨xb, 0, none⟩)]) rfl trivial (enters_of Tryd.func111 (by kernel_rfl) rfl)
      (valuesN_runs (n - 1 - 1 - 1) (by omega) xb xv xxs X hnv hxx) (fun h k => h.trans k) (fun X' l' o o' hl' ho hc hw => ?kp2) (Below.refl _ _) (fun _ => rfl)
      (fun p2 X' => ((X'.heap[W.heap.size]? = some (.cells #[.func (.yield l) #[] #[]] 138 (0, 0)) ∧ J (flat pre ++ p2) X') ∧ KeepF b v rs W0 X') ∧ KA W0.heap.size X X')
      (fun cc p2 X' => (cc = .exit 0 ∧ KA W0.heap.size X X' ∧ ∃ p, p <+: flat rs ∧ Jx p X'))
      (OwnFrom.and (OwnFrom.and (OwnFrom.and (ownFrom_blk (by omega)) (ownFrom_at HJ.out (by omega) (fun p2 => flat pre ++ p2))) (HN0.out.own (by omega))) (ownFrom_ka (Nat.le_refl _)))
      (fun cc s Y Z row hs hg hr => by
        obtain ⟨h1, h4, p, h2, h3⟩ := hs
        exact ⟨h1, ownFrom_ka (Nat.le_refl _) () Y Z row h4 hg hr, p, h2, HJX.out p Y Z row h3 hg (fun r e => ⟨by have := (hr r e).1; omega, (hr r e).2⟩)⟩)
      ⟨⟨⟨HYB.out, by simpa using HJP.out⟩, HK.out⟩, KA.refl _ _⟩ ?assign2 ?body2 ?done2 ?stop2
    case kp2 => exact ⟨World.putObj_heap_other (by have h9 : xb < X.heap.size := hnv.lt; omega), fun g hg => World.putObj_heap_other (by have := (hnv.own.lt g hg).2; omega)⟩
    case assign2 =>
      rintro l3 p2 y Y K hok2 hI hK
      gi_wp2
      have hsy : X.heap.size ≤ Y.heap.size := hI.2.size
      have h9 : ∀ Z, Below Y.heap.size Y (Y.alloc Z) := fun Z => (Below.refl _ Y).alloc (Nat.le_refl _) Z
      unfold boxFrame at hK
      have h8 : xb < X.heap.size := hnv.lt
      simpa using hK Y.heap.size _ hsy (KA.of_below (h9 _)) ⟨(h9 _).block _ (by omega), fun g hg => (h9 _).block _ (by have h7 : g < X.heap.size := (hnv.own.lt g hg).2; omega)⟩ ⟨⟨⟨alOld hI.1.1.1, HJ.out.alloc _ hI.1.1.2⟩, hI.1.2.trans ((HN0.out.keep hI.1.2).keepB (h9 _) (Nat.le_refl _))⟩, hI.2.trans (KA.of_below (h9 _))⟩ (alNew rfl)
    case body2 =>
      rintro l3 p2 y bx Y hl3 hr3 ⟨⟨⟨hy, hj⟩, hk⟩, hka⟩ hbx hbox hok2
      have HK2 := Lib.hid hk
      have HKA := Lib.hid hka
      have HYB2 := Lib.hid hy
      obtain ⟨fn, tmps, assign, body, hyy, hR⟩ := yieldAt_any (l' := l3) (m := n - 1 - 1 - 1 - 1 - 1) (HY.out _ y _ hj (by rw [List.append_assoc]; exact flat_ok HOK.out hok2))
      have hJx := hR
      have kb := cell_of hy
      have kbl := lt_of hy
      obtain ⟨y0, y1, y2, y3, y4, y5, y6, y7, y8⟩ := hbox.cell
      have yl := hbox.lt
      clear hR hy hj hk hka hr3
      unfold boxFrame
      gi_wp2_with fail
      refine ⟨fun h => (by simp [Fence.wide] at h), hJx.mono ?_⟩
      rintro e Y3 ⟨hka3, ⟨rfl, hJ3, hk3⟩ | ⟨rfl, hJx3⟩⟩
      · gi_wp2_with fail
        exact ⟨hka3.low (by omega), hk3.row HIN.out, ⟨⟨(hka3.same _ (Nat.le_refl _) kbl).trans HYB2.out, by rw [← List.append_assoc]; exact hJ3⟩, HK2.out.trans hk3⟩, HKA.out.trans (hka3.low (by omega))⟩
      · gi_wp2_with fail
        exact ⟨hka3.low (by omega), rfl, HKA.out.trans (hka3.low (by omega)), _, by rw [List.append_assoc]; exact flat_ok HOK.out hok2, hJx3⟩
    case done2 =>
      rintro p2 Y rfl ⟨⟨⟨hy, hj⟩, hk⟩, hka⟩
      have hkX : KeepF b v rs X Y := fun k h9 => (hk k h9).trans (HK.out k h9).symm
      gi_wp2_with fail
      exact ⟨hka, hkX.top, ⟨hy, by rw [flat_snoc]; exact hj⟩, hk, Nat.le_trans hxl hka.size⟩
    case stop2 =>
      rintro cc p2 Y _ ⟨rfl, hka, p, h1, h2⟩
      gi_wp2_with fail
      exact ⟨hka, rfl, p, h1, h2⟩
  case done =>
    rintro D ys Y hD rfl ⟨⟨hy, hj⟩, hk, hsz⟩ hK
    gi_wp2_with fail
    rw [Exit.noGoto_normal]
    refine ⟨by simp, .inl ⟨_, _, rfl, run_takeDeferred hK, ?_⟩⟩
    exact ⟨_, results_none rfl _ _ _, ⟨_, rfl⟩, .inl ⟨_, rfl, HJ.out.putObj _ hj (by omega) hK rfl⟩⟩
  case stop =>
    rintro D cc pre Y hD _ ⟨rfl, p, h1, h2⟩ hK
    gi_wp2_with fail
    rw [Exit.noGoto_normal]
    refine ⟨by simp, .inl ⟨_, _, rfl, run_takeDeferred hK, ?_⟩⟩
    exact ⟨_, results_none rfl _ _ _, ⟨_, rfl⟩, .inr ⟨_, h1, HJX.out.putObj _ h2 (by omega) hK rfl⟩⟩

end Go.Proofs.YtkfnjpmigifomaaDoor
