/- What this text holds: what a fabric's All gives back, and how many notes there are. No condition. -/
import Derived.Test.YtkfnjpmigifomaaDoorFbS
import Derived.Laws.EntriesVeiled
namespace Go.Proofs.YtkfnjpmigifomaaDoor
open Go.RowKit Go.Shelf
attribute [local go_sem] Oper.semAt_some

section
variable {w : World} {B p : Nat} {c : Cfg} {n : Nat} {P : Nat → Nat} {V : Nat → Value} {G : Nat → List Nt}
theorem fall_ok (h : Fa w B p c n P V G) :
    Calls Tryd.prog 35 #[.pointer (some ⟨p, 0, none⟩)] w fun e w' => ∃ q b v rs, e = .returned (.func (.func 79) #[] #[.pointer (some ⟨q, 0, none⟩)]) ∧ w'.heap[q]? = some (.cells #[.func (.func 104) #[] #[.pointer (some ⟨b, 0, none⟩)]] 136 (0, 0)) ∧ w.heap.size ≤ q ∧ RV w' b v rs ∧ rs.map Rw.xs = (List.range n).map G ∧ (∀ k, RK b v rs k → w.heap.size ≤ k) ∧ Below w.heap.size w w' := by
  have HR := Lib.hid (frows_ok h)
  clear h
  go_enter Tryd.func35, Tryd.ntmps35
  go_wp2_with fail
  refine HR.out.mono ?_
  rintro e w1 ⟨b, v, rs, rfl, hv, hx, hk, hb⟩
  have HP := Lib.hid (And.intro hv (And.intro hx (And.intro hk hb)))
  clear hv hx hk hb
  go_wp2_with fail
  go_ret
  have hb9 : Below w1.heap.size w1 (w1.alloc (.cells #[.func (.func 104) #[] #[.pointer (some ⟨b, 0, none⟩)]] 136)) := ext_alloc _ (Below.refl _ _)
  exact ⟨_, b, v, rs, rfl, alNew rfl, HP.out.2.2.2.size, HP.out.1.ext hb9, HP.out.2.1, HP.out.2.2.1, ext_trans HP.out.2.2.2 hb9⟩
theorem flatten_le {α : Type} (m : Nat) : ∀ (l : List (List α)), (∀ x ∈ l, x.length ≤ m) → l.flatten.length ≤ l.length * m
  | [], _ => by simp
  | x :: xs, h => by
    have h1 := flatten_le m xs (fun y hy => h y (List.mem_cons_of_mem _ hy))
    have h2 := h x List.mem_cons_self
    simp only [List.flatten_cons, List.length_append, List.length_cons, Nat.succ_mul]
    omega
theorem flat_map (rs : List Rw) : flat rs = (rs.map Rw.xs).flatten := by simp [flat, List.flatMap_def]
theorem Fa.rows (h : Fa w B p c n P V G) {rs : List Rw} (hx : rs.map Rw.xs = (List.range n).map G) : rs.length ≤ 16 ∧ (∀ r ∈ rs, r.xs.length ≤ 16) ∧ (flat rs).length ≤ 256 := by
  have hl := congrArg List.length hx
  have h16 := h.n16
  simp at hl
  have hr : ∀ r ∈ rs, r.xs.length ≤ 16 := fun r hr => by
    have h1 : r.xs ∈ rs.map Rw.xs := List.mem_map.2 ⟨r, hr, rfl⟩
    rw [hx] at h1
    obtain ⟨i, hi, he⟩ := List.mem_map.1 h1
    have := h.fit i (List.mem_range.1 hi)
    rw [← he]
    omega
  refine ⟨by omega, hr, ?_⟩
  rw [flat_map]
  have := flatten_le 16 (rs.map Rw.xs) (fun x hx => by obtain ⟨r, h1, rfl⟩ := List.mem_map.1 hx; exact hr r h1)
  simp at this ⊢
  omega
set_option maxRecDepth 100000 in
set_option maxHeartbeats 4000000 in
theorem flen_ok (h : Fa w B p c n P V G) :
    Calls Tryd.prog 36 #[.pointer (some ⟨p, 0, none⟩)] w fun e w' => e = .returned (.int .i64 ((List.range n).map G).flatten.length) ∧ Below w.heap.size w w' := by
  have HR := Lib.hid (fun (W : World) (hb : Below w.heap.size w W) => frows_ok (h.ext hb))
  have HH := Lib.hid h
  clear h
  refine (callsIn_wide (n := 6)).1 ?_
  have hro : Fence.wide.round = none := rfl
  refine callsIn_of_wp_marks Tryd.func36 rfl trivial ?_ hro
  simp only [Tryd.ntmps36, List.size_toArray, List.length_cons, List.length_nil, Nat.reduceAdd, Nat.reduceSub, Array.replicate_succ, Array.replicate_zero, List.push_toArray, List.append_toArray, List.nil_append, List.cons_append]
  gi_wp2_with fail
  refine ⟨trivial, (callsIn_wide.2 (HR.out _ (by repeat (with_reducible first | exact Below.refl _ _ | assumption | (refine ext_next (by assumption) ?_) | apply ext_alloc | apply ext_past | apply ext_drew | apply ext_drewN)))).mono ?_⟩
  rintro e w1 ⟨b, v, rs, rfl, hv, hx, hk, hb⟩
  obtain ⟨hl1, hl2, hl3⟩ := HH.out.rows hx
  have HV := Lib.hid hv
  have HX := Lib.hid hx
  have HK := Lib.hid hk
  have HL := Lib.hid (And.intro hl1 (And.intro hl2 hl3))
  have hbw : Below w.heap.size w w1 := ext_next hb (by repeat (with_reducible first | exact Below.refl _ _ | assumption | (refine ext_next (by assumption) ?_) | apply ext_alloc | apply ext_past | apply ext_drew | apply ext_drewN))
  have hm0 : w1.heap[w.heap.size]? = some (.cells #[.int .i64 0] 3 (0, 0)) := (hb.block _ (by simp)).trans (alNew rfl)
  have hml := lt_of hm0
  clear hv hx hk hb hl1 hl2 hl3 HH
  gi_wp2_with fail
  refine wpIn_rangeFunc_runs hro (by omega) (gf := 104) (lb := #[.pointer (some ⟨b, 0, none⟩)]) rfl trivial (enters_of Tryd.func104 (by kernel_rfl) rfl)
    (valuesS_runs (6 - 1) (by omega) b v rs w1 HV.out.top (by have := HL.out.1; omega)) (fun h k => h.trans k) (fun X l' o o' hl' ho hc hw => ?kp) (Below.refl _ _) (fun _ => rfl)
    (fun pre X => (X.heap[w.heap.size]? = some (.cells #[.int .i64 (flat pre).length] 3 (0, 0)) ∧ Below w.heap.size w X) ∧ KeepF b v rs w1 X ∧ w1.heap.size ≤ X.heap.size)
    (fun _ _ _ => False)
    (OwnFrom.and (OwnFrom.and (fun s A B row hs hg hr => (hg.block _ (lt_of hs) (fun e => by have := (hr _ e.symm).1; omega)).trans hs) (ownFrom_below (Nat.le_refl _) (by omega))) (OwnFrom.and (HV.out.own (Nat.le_refl _)) (fun _ _ _ _ hs hg _ => Nat.le_trans hs hg.size)))
    (fun cc _ _ _ _ h _ _ => h)
    ⟨⟨hm0, hbw⟩, KeepF.refl, Nat.le_refl _⟩
    (fun x a' X => a' = varFrame { tmps := #[.pointer (some ⟨p, 0, none⟩), undef, .int .i64 0, .pointer (some ⟨w.heap.size, 0, none⟩), undef, .pointer (some ⟨p, 0, none⟩), .func (.func 104) #[] #[.pointer (some ⟨b, 0, none⟩)], undef, undef, undef, undef, undef, undef], defers := [] } #[7] (fun x : Rw => #[x.fn]) [(4, 0)] x)
    (fun x a' => ownFrom_pure _ (fun _ => _)) ?assign ?body ?done ?stop
  case kp => exact ⟨World.putObj_heap_other (by have := HV.out.top.lt.1; omega), fun g hg => World.putObj_heap_other (by have := HV.out.top.lt.2 g hg; omega)⟩
  case assign =>
    rintro l2 pre x X K hok hI hK
    unfold varFrame at hK
    simp at hK
    gi_wp2
    exact hK _ _ (KA.refl _ _) (KeepN.refl _ _ _) hI.1.1 hI.1.2 hI.2.1 hI.2.2 rfl
  case body =>
    rintro l2 pre x a' X hl2 hr ⟨⟨hm, hbX⟩, hk, hsz⟩ rfl hok
    have HKF := Lib.hid hk
    have HRW := Lib.hid hr
    have HM := Lib.hid hm
    have HBX := Lib.hid hbX
    have HOK := Lib.hid hok
    have HIN : Hid (x ∈ rs) := Lib.hid (by
      obtain ⟨t, ht⟩ := hok
      rw [← ht]
      simp)
    have hxl : w1.heap.size ≤ X.heap.size := hsz
    clear hk hm hbX hok hr hsz
    unfold varFrame
    obtain ⟨xb, xv, xxs⟩ := x
    unfold Rw.fn
    gi_wp2_with fail
    obtain ⟨rr, hr⟩ := HRW.out
    have HNX := HV.out.keep HKF.out
    have hnv := HNX.row _ HIN.out
    have hxx := HL.out.2.1 _ HIN.out
    have hne : w.heap.size ≠ xb ∧ ∀ g, xv.ownBlock = some g → w.heap.size ≠ g := by
      refine ⟨fun e => ?_, fun g hg e => ?_⟩
      · have := HK.out xb (.inr (.inr ⟨_, HIN.out, .inl rfl⟩)); simp at this; omega
      · have := HK.out g (.inr (.inr ⟨_, HIN.out, .inr hg⟩)); simp at this; omega
    refine wpIn_rangeFunc_runsN (l₀ := l2) (r₀ := rr) rfl hr (by omega) (gf := 111) (lb := #[.pointer (some ⟨xb, 0, none⟩)]) rfl trivial (enters_of Tryd.func111 (by kernel_rfl) rfl)
      (valuesN_runs (6 - 1 - 1 - 1) (by omega) xb xv xxs X hnv (by simp at hxx; omega)) (fun h k => h.trans k) (fun X' l' o o' hl' ho hc hw => ?kp2) (Below.refl _ _) (fun _ => rfl)
      (fun p2 X' => ((X'.heap[w.heap.size]? = some (.cells #[.int .i64 (flat pre ++ p2).length] 3 (0, 0)) ∧ Below w.heap.size w X') ∧ KeepF b v rs w1 X') ∧ KA w1.heap.size X X')
      (fun _ _ _ => False)
      (OwnFrom.and (OwnFrom.and (OwnFrom.and (fun s A B row hs hg hr => (hg.block _ (lt_of hs) (fun e => by have := (hr _ e.symm).1; omega)).trans hs) (ownFrom_below (by omega) (by omega))) (HV.out.own (by omega))) (ownFrom_ka (by omega)))
      (fun cc _ _ _ _ h _ _ => h)
      ⟨⟨⟨by simpa using HM.out, HBX.out⟩, HKF.out⟩, KA.refl _ _⟩
      (fun x a' X' => a' = varFrame { tmps := #[.pointer (some ⟨p, 0, none⟩), undef, .int .i64 0, .pointer (some ⟨w.heap.size, 0, none⟩), Value.func (.func 111) #[] #[.pointer (some ⟨xb, 0, none⟩)], .pointer (some ⟨p, 0, none⟩), .func (.func 104) #[] #[.pointer (some ⟨b, 0, none⟩)], Value.func (.func 111) #[] #[.pointer (some ⟨xb, 0, none⟩)], Value.func (.func 111) #[] #[.pointer (some ⟨xb, 0, none⟩)], undef, undef, undef, undef], defers := [] } #[9] (fun x : Nt => #[x.out]) [] x)
      (fun x a' => ownFrom_pure _ (fun _ => _)) ?assign2 ?body2 ?done2 ?stop2
    case kp2 => exact ⟨World.putObj_heap_other (by have h9 : xb < X.heap.size := hnv.lt; omega), fun g hg => World.putObj_heap_other (by have := (hnv.own.lt g hg).2; omega)⟩
    case assign2 =>
      rintro l3 p2 y Y K hok2 hI hK
      unfold varFrame at hK
      simp at hK
      gi_wp2
      exact hK _ _ (KA.refl _ _) (KeepN.refl _ _ _) (by simpa using hI.1.1.1) hI.1.1.2 hI.1.2 hI.2 rfl
    case body2 =>
      rintro l3 p2 y a' Y hl3 hr3 ⟨⟨⟨hm, hbY⟩, hk⟩, hka⟩ rfl hok2
      obtain ⟨q, hq⟩ : ∃ q, q = (flat pre ++ p2).length := ⟨_, rfl⟩
      have hq2 : (q : Int) ≤ 255 := by
        have h1 := (flat_ok HOK.out hok2).length_le
        have h2 := HL.out.2.2
        simp at h1 hq
        omega
      rw [← hq] at hm
      have hqe : Hid (((flat pre ++ (p2 ++ [y])).length : Int) = (q : Int) + 1) := Lib.hid (by rw [hq]; simp; omega)
      have mc := cell_of hm
      have ml := lt_of hm
      have mf := free_of hm
      have HM2 := Lib.hid hm
      have HKY := Lib.hid hk
      have HKA := Lib.hid hka
      have HBY := Lib.hid hbY
      have hmx : w.heap.size < X.heap.size := by omega
      clear hm hk hka hbY hq
      unfold varFrame
      gi_wp2_with fail
      have hke : ∀ k, RK b v rs k → k ≠ w.heap.size := fun k h9 e => by have := HK.out k h9; simp at this; omega
      exact ⟨KA.setCell _ _ _ hmx, ⟨Below.heap_setCell _ _ _ _ (Ne.symm hne.1), fun g hg => Below.heap_setCell _ _ _ _ (Ne.symm (hne.2 g hg))⟩, ⟨⟨(set_of (u := .int .i64 ((q : Int) + 1)) HM2.out).trans (by have := hqe.out; simp at this ⊢; omega), HBY.out.setCell (p := ⟨w.heap.size, 0, none⟩) (Nat.le_refl _) _⟩, HKY.out.trans (fun k h9 => Below.heap_setCell _ _ _ _ (hke k h9))⟩, HKA.out.trans (KA.setCell _ _ _ (by simp; omega))⟩
    case done2 =>
      rintro p2 Y rfl ⟨⟨⟨hm, hbY⟩, hk⟩, hka⟩
      have hkX : KeepF b v rs X Y := fun k h9 => (hk k h9).trans (HKF.out k h9).symm
      gi_wp2_with fail
      exact ⟨hka, hkX.top, ⟨by rw [flat_snoc]; exact hm, hbY⟩, hk, Nat.le_trans hxl hka.size⟩
    case stop2 =>
      rintro cc p2 Y _ h
      exact h.elim
  case done =>
    rintro D ys Y hD rfl ⟨⟨hm, hbY⟩, hk, hsz⟩ hK
    have mc := cell_of hm
    have ml := lt_of hm
    gi_wp2_with fail
    refine ⟨by simp, .inl ⟨_, _, rfl, run_takeDeferred hK, ?_⟩⟩
    refine ⟨.int .i64 (flat ys).length, ?_, ?_, hbY.trans (belowK_b (w := w) (Nat.le_refl _) _ D _ _ (by omega) hK rfl rfl)⟩
    · simp [results, Tryd.f36, go_sem]
    · rw [flat_map, HX.out]
  case stop =>
    rintro D cc pre Y hD _ h hK
    exact h.elim
end

end Go.Proofs.YtkfnjpmigifomaaDoor
