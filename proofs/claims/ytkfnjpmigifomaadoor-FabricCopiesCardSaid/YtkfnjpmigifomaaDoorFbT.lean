/- What this text holds: a fabric's room, and taking a note. No condition. -/
import Derived.Test.YtkfnjpmigifomaaDoorFbN
namespace Go.Proofs.YtkfnjpmigifomaaDoor
open Go.RowKit

theorem lroom_nil (w : World) : Calls Tryd.prog 93 #[.pointer none] w fun e w' => e = .returned (.int .i64 0) ∧ w' = w := by
  go_enter Tryd.func93, Tryd.ntmps93
  go_wp2
  go_ret
  exact ⟨rfl, rfl⟩
section
variable {w : World} {B p : Nat} {c : Cfg} {n : Nat} {P : Nat → Nat} {V : Nat → Value} {G : Nat → List Nt}
theorem froom_ok (h : Fa w B p c n P V G) {i k : Nat} (hi : (i : Int) < c.co) (hk : k < 4) :
    Calls Tryd.prog 71 #[.pointer (some ⟨p, 0, none⟩), .int .i64 i, .int .i64 k] w fun e w' => e = .returned (.int .i64 (c.de - (G (i * 4 + k)).length)) ∧ Below w.heap.size w w' := by
  have HF := Lib.hid (ffind_ok h hi hk)
  have hn := h.hn
  have h16 := h.n16
  have hlt : i * 4 + k < n := by omega
  have hft := h.fit _ hlt
  have HR := Lib.hid (lroom_any _ _ _ _ w (h.la _ hlt) (by omega) (by omega) (by omega))
  clear h hn h16 hft hlt hi hk
  generalize P (i * 4 + k) = pp at *
  go_enter Tryd.func71, Tryd.ntmps71
  go_wp2_with fail
  refine HF.out.mono ?_
  rintro e w1 ⟨rfl, hw⟩
  subst hw
  go_wp2_with fail
  refine HR.out.mono ?_
  rintro e w2 ⟨rfl, hb⟩
  have HB := Lib.hid hb
  clear hb
  go_wp2_with fail
  go_ret
  exact ⟨rfl, HB.out⟩
theorem froom_no (h : Fa w B p c n P V G) (x y : Int) (hx : x < 0 ∨ c.co ≤ x ∨ y < 0 ∨ 4 ≤ y) :
    Calls Tryd.prog 71 #[.pointer (some ⟨p, 0, none⟩), .int .i64 x, .int .i64 y] w fun e w' => e = .returned (.int .i64 0) ∧ Below w.heap.size w w' := by
  have HF := Lib.hid (ffind_no h x y hx)
  clear h hx
  go_enter Tryd.func71, Tryd.ntmps71
  go_wp2_with fail
  refine HF.out.mono ?_
  rintro e w1 ⟨rfl, hw⟩
  subst hw
  go_wp2_with fail
  refine (lroom_nil _).mono ?_
  rintro e w2 ⟨rfl, hw⟩
  subst hw
  go_wp2_with fail
  go_ret
  exact ⟨rfl, Below.refl _ _⟩
set_option maxRecDepth 100000 in
set_option maxHeartbeats 2000000 in
theorem ftake_no (h : Fa w B p c n P V G) (x y t : Int) (hx : x < 0 ∨ c.co ≤ x ∨ y < 0 ∨ 4 ≤ y) :
    Calls Tryd.prog 33 #[.pointer (some ⟨p, 0, none⟩), .int .i64 x, .int .i64 y, .int .i64 t] w fun e w' => e = .returned (.tuple #[Nt.zero.val, .int .i64 10]) ∧ Below w.heap.size w w' := by
  have HF := Lib.hid (fun (W : World) (hb : Below w.heap.size w W) => ffind_no (h.ext hb) x y hx)
  clear h hx
  go_enter Tryd.func33, Tryd.ntmps33
  go_wp2_with fail
  refine (HF.out _ (by repeat (with_reducible first | exact Below.refl _ _ | assumption | (refine ext_next (by assumption) ?_) | apply ext_alloc | apply ext_past | apply ext_drew | apply ext_drewN))).mono ?_
  rintro e w1 ⟨rfl, hw⟩
  subst hw
  go_wp2_with fail
  (try simp only [Exit.inBlock, Exit.then]); refine bodyPost_ret (by simp [results, Tryd.results33, go_sem]; try rfl) rfl ?_
  exact ⟨rfl, (by repeat (with_reducible first | exact Below.refl _ _ | assumption | (refine ext_next (by assumption) ?_) | apply ext_alloc | apply ext_past | apply ext_drew | apply ext_drewN))⟩
/-- The answer's box: filled in behind a call. -/
theorem box_after {w w2 : World} {S : Nat → Prop} {y : Nt} (h : Ft S (w.alloc (.cells #[.int .i64 0, .int .i64 0, .int .i64 0, .int .i64 0, .int .i64 0, .int .i64 0, .int .i64 0, .bool false, .int .i64 0] 74)) w2) (hS : ¬ S w.heap.size) :
    BxN w2 w.heap.size Nt.zero ∧ BxN (setN w2 w.heap.size y) w.heap.size y ∧ Ft S w (setN w2 w.heap.size y) := by
  have hz : BxN w2 w.heap.size Nt.zero := (h.block _ (by simp) hS).trans (World.alloc_heap_new _ _)
  obtain ⟨s1, s2, s3⟩ := setN_same w2 w.heap.size y
  have hsz := h.size
  refine ⟨hz, setN_box hz y, ⟨s1.trans h.os, s2.trans h.tape, s3.trans h.output, ?_, fun k hk hs => ?_⟩⟩
  · rw [setN_size]
    simp at hsz
    omega
  · rw [setN_other _ _ _ _ (by omega)]
    exact (h.block k (by simp; omega) hs).trans (Below.heap_alloc _ _ _ hk)
set_option maxRecDepth 100000 in
set_option maxHeartbeats 4000000 in
theorem ftake_none (h : Fa w B p c n P V G) {i k : Nat} (hi : (i : Int) < c.co) (hk : k < 4) (t : Int) (hg : G (i * 4 + k) = []) :
    Calls Tryd.prog 33 #[.pointer (some ⟨p, 0, none⟩), .int .i64 i, .int .i64 k, .int .i64 t] w fun e w' => e = .returned (.tuple #[Nt.zero.val, .int .i64 12]) ∧ Below w.heap.size w w' := by
  have hn := h.hn
  have h16 := h.n16
  have hlt : i * 4 + k < n := by omega
  have HF := Lib.hid (fun (W : World) (hb : Below w.heap.size w W) => ffind_ok (h.ext hb) hi hk)
  have HT := Lib.hid (fun (W : World) (hb : Below w.heap.size w W) => take_none _ _ _ t W (hg ▸ ((h.la _ hlt).ext hb)))
  clear h hn h16 hlt hi hk hg
  generalize P (i * 4 + k) = pp at *
  go_enter Tryd.func33, Tryd.ntmps33
  go_wp2_with fail
  refine (HF.out _ (by repeat (with_reducible first | exact Below.refl _ _ | assumption | (refine ext_next (by assumption) ?_) | apply ext_alloc | apply ext_past | apply ext_drew | apply ext_drewN))).mono ?_
  rintro e w1 ⟨rfl, hw⟩
  subst hw
  go_wp2_with fail
  refine (HT.out _ (by repeat (with_reducible first | exact Below.refl _ _ | assumption | (refine ext_next (by assumption) ?_) | apply ext_alloc | apply ext_past | apply ext_drew | apply ext_drewN))).mono ?_
  rintro e w2 ⟨rfl, hb⟩
  obtain ⟨hz, hF, hft⟩ := box_after (y := Nt.zero) (S := fun _ => False) (Ft.of_below hb) (fun e => e)
  obtain ⟨z0, z1, z2, z3, z4, z5, z6, z7, z8⟩ := hz.cell
  have zf := hz.free
  have zl := hz.lt
  have HFT := Lib.hid hft
  have HBX := Lib.hid hF
  clear hb hz hft hF
  unfold Nt.zero at z0 z1 z2 z3 z4 z5 z6 z7 z8
  unfold Nt.val Nt.zero
  go_wp2_with fail
  obtain ⟨W9, hW9⟩ : ∃ W9, W9 = setN w2 w.heap.size Nt.zero := ⟨_, rfl⟩
  have HW9 := Lib.hid hW9
  unfold setN Nt.zero at hW9
  rw [← hW9]
  clear hW9
  have hF9 : BxN W9 w.heap.size Nt.zero := by rw [HW9.out]; exact HBX.out
  obtain ⟨g0, g1, g2, g3, g4, g5, g6, g7, g8⟩ := hF9.cell
  (try simp only [Exit.inBlock, Exit.then]); refine bodyPost_ret (by simp [results, Tryd.results33, go_sem, g0, g1, g2, g3, g4, g5, g6, g7, g8]; try rfl) rfl ?_
  exact ⟨rfl, by rw [HW9.out]; exact HFT.out.below (Below.refl _ _) (fun _ e => e.elim)⟩
set_option maxRecDepth 100000 in
set_option maxHeartbeats 4000000 in
theorem ftake_ok (h : Fa w B p c n P V G) (hB : B ≤ w.heap.size) {i k j : Nat} (hi : (i : Int) < c.co) (hk : k < 4) (t : Int) (hj : j < (G (i * 4 + k)).length)
    (hw : (Int.tmod t (G (i * 4 + k)).length < 0 ∧ Int.tmod t (G (i * 4 + k)).length + (G (i * 4 + k)).length = j) ∨ (0 ≤ Int.tmod t (G (i * 4 + k)).length ∧ Int.tmod t (G (i * 4 + k)).length = j)) :
    Calls Tryd.prog 33 #[.pointer (some ⟨p, 0, none⟩), .int .i64 i, .int .i64 k, .int .i64 t] w fun e w' => e = .returned (.tuple #[(atN (G (i * 4 + k)) j).val, .int .i64 0]) ∧
      ∃ v', Fa w' B p c n P (upF V (i * 4 + k) v') (upF G (i * 4 + k) ((G (i * 4 + k)).eraseIdx j)) ∧ Ft (FS n P V) w w' ∧ ∀ q, FS n P (upF V (i * 4 + k) v') q → FS n P V q ∨ w.heap.size ≤ q := by
  have hn := h.hn
  have h16 := h.n16
  have hlt : i * 4 + k < n := by omega
  have hft := h.fit _ hlt
  have H := Lib.hid h
  have HF := Lib.hid (fun (W : World) (hb : Below w.heap.size w W) => ffind_ok (h.ext hb) hi hk)
  have HT := Lib.hid (fun (W : World) (hb : Below w.heap.size w W) => take_ok _ _ _ _ t j W ((h.la _ hlt).ext hb) (by omega) hj hw)
  have HLT := Lib.hid (And.intro hlt hj)
  have HFI := Lib.hid hft
  clear h hn h16 hi hk hw hft hlt hj
  generalize hix : i * 4 + k = ix at *
  have HIX := Lib.hid hix
  clear hix
  obtain ⟨pp, hpp⟩ : ∃ x, x = P ix := ⟨_, rfl⟩
  have HPP := Lib.hid hpp
  rw [← hpp] at HF HT
  clear hpp
  go_enter Tryd.func33, Tryd.ntmps33
  go_wp2_with fail
  refine (HF.out _ (by repeat (with_reducible first | exact Below.refl _ _ | assumption | (refine ext_next (by assumption) ?_) | apply ext_alloc | apply ext_past | apply ext_drew | apply ext_drewN))).mono ?_
  rintro e w1 ⟨rfl, hw⟩
  subst hw
  go_wp2_with fail
  refine (HT.out _ (by repeat (with_reducible first | exact Below.refl _ _ | assumption | (refine ext_next (by assumption) ?_) | apply ext_alloc | apply ext_past | apply ext_drew | apply ext_drewN))).mono ?_
  rintro e w2 ⟨rfl, v', hla, htc, hv'⟩
  have H1 := H.out.ext (ext_alloc (.cells #[.int .i64 0, .int .i64 0, .int .i64 0, .int .i64 0, .int .i64 0, .int .i64 0, .int .i64 0, .bool false, .int .i64 0] 74) (Below.refl _ w))
  rw [HPP.out] at hla htc
  have hsz1 : (w.alloc (.cells #[.int .i64 0, .int .i64 0, .int .i64 0, .int .i64 0, .int .i64 0, .int .i64 0, .int .i64 0, .bool false, .int .i64 0] 74)).heap.size = w.heap.size + 1 := by simp
  obtain ⟨hFa, hFt, hnew⟩ := H1.turn HLT.out.1 (by omega) hla htc (fun g e => by cases e) (fun g hg => .inr (hv' g hg)) (by have := HFI.out; have := List.length_eraseIdx_le (G ix) j; omega)
  obtain ⟨hz, hF, hft⟩ := box_after (y := atN (G ix) j) hFt (fun hs => by have := (H.out.fs hs).2.1; omega)
  obtain ⟨z0, z1, z2, z3, z4, z5, z6, z7, z8⟩ := hz.cell
  have zf := hz.free
  have zl := hz.lt
  have HFT := Lib.hid hft
  have HBX := Lib.hid hF
  have HFA := Lib.hid hFa
  have HNEW := Lib.hid hnew
  clear hla htc hv' hz hft hF hFa hFt hnew H1 hsz1
  unfold Nt.zero at z0 z1 z2 z3 z4 z5 z6 z7 z8
  obtain ⟨y, hy⟩ : ∃ y, y = atN (G ix) j := ⟨_, rfl⟩
  rw [← hy] at HBX HFT
  have HY := Lib.hid hy
  rw [← hy]
  clear hy
  unfold Nt.val
  go_wp2_with fail
  obtain ⟨W9, hW9⟩ : ∃ W9, W9 = setN w2 w.heap.size y := ⟨_, rfl⟩
  have HW9 := Lib.hid hW9
  unfold setN at hW9
  rw [← hW9]
  clear hW9
  have hF9 : BxN W9 w.heap.size y := by rw [HW9.out]; exact HBX.out
  obtain ⟨g0, g1, g2, g3, g4, g5, g6, g7, g8⟩ := hF9.cell
  (try simp only [Exit.inBlock, Exit.then]); refine bodyPost_ret (by simp [results, Tryd.results33, go_sem, g0, g1, g2, g3, g4, g5, g6, g7, g8]; try rfl) rfl ?_
  have hne : ∀ q, FS n P (upF V ix v') q → q ≠ w.heap.size := fun q hq => by
    rcases HNEW.out q hq with h1 | h1
    · have := (H.out.fs h1).2.1; omega
    · simp at h1; omega
  refine ⟨by rw [← HY.out]; rfl, v', ?_, by rw [HW9.out]; exact HFT.out, fun q hq => ?_⟩
  · rw [HW9.out]
    exact HFA.out.keep (by rw [setN_size]; exact Nat.le_refl _) (setN_other _ _ _ _ (by have := H.out.lt; omega)) (fun q hq => setN_other _ _ _ _ (hne q hq))
  · rcases HNEW.out q hq with h1 | h1
    · exact .inl h1
    · simp at h1; exact .inr (by omega)
end

end Go.Proofs.YtkfnjpmigifomaaDoor
