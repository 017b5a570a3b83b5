/- What this text holds: a call of a fabric and of the document's fabric, side by side. Condition: the tables of kinds and of limits hold what their initialisers lay. What this text holds: does: one call of both, walked. Condition: the tables of kinds and of limits hold what their initialisers lay. -/
import Derived.Test.YtkfnjpmigifomaaDoorNtI
import Derived.Deep.RegionHeld3
namespace Go.Proofs.YtkfnjpmigifomaaDoor
open Go.RowKit

/-- A fabric and the document's fabric, apart, with the same notes. -/
structure Bo5 (w : World) (lo B p q : Nat) (c : Cfg) (n : Nat) (P : Nat → Nat) (V : Nat → Value) (G : Nat → List Nt) (A : Option Addr) (cap : Nat) (xs : List Nt) : Prop where
  fa : Fa w B p c n P V G
  rf : Rf w q c.co c.gr c.de A cap xs
  al : Al c n G xs
  lo : lo ≤ B ∧ B ≤ w.heap.size ∧ lo ≤ q ∧ ∀ a, A = some a → lo ≤ a.block
  sp : q ≠ p ∧ ¬ FS n P V q ∧ ∀ a, A = some a → a.block ≠ p ∧ ¬ FS n P V a.block ∧ a.block < w.heap.size
/-- What a call does to the fabric. -/
def StF (B p : Nat) (c : Cfg) (n : Nat) (P : Nat → Nat) (V : Nat → Value) (G' : Nat → List Nt) (w w' : World) : Prop :=
  ∃ V', Fa w' B p c n P V' G' ∧ Ft (FS n P V) w w' ∧ ∀ k, FS n P V' k → FS n P V k ∨ w.heap.size ≤ k
theorem SlN.ft {w w' : World} {A : Option Addr} {ys : List Nt} (h : SlN w A ys) (hs : w.heap.size ≤ w'.heap.size) (hk : ∀ a, A = some a → 0 < ys.length → w'.heap[a.block]? = w.heap[a.block]?) : SlN w' A ys := fun h0 => by
  obtain ⟨b, off, rfl, hbl, hcs⟩ := h h0
  exact ⟨b, off, rfl, Nat.lt_of_lt_of_le hbl hs, fun i hi j u hu => (World.cell?_of_block (a := ⟨b, off + i * 9 + j, none⟩) (hk ⟨b, off, none⟩ rfl h0)).trans (hcs i hi j u hu)⟩
section
variable {w w1 w2 : World} {lo B p q : Nat} {c : Cfg} {n cap : Nat} {P : Nat → Nat} {V : Nat → Value} {G G' : Nat → List Nt} {A : Option Addr} {xs xs' : List Nt}
theorem Bo5.ext (h : Bo5 w lo B p q c n P V G A cap xs) (hb : Below w.heap.size w w1) : Bo5 w1 lo B p q c n P V G A cap xs :=
  ⟨h.fa.ext hb, h.rf.ext hb, h.al, ⟨h.lo.1, Nat.le_trans h.lo.2.1 hb.size, h.lo.2.2⟩, ⟨h.sp.1, h.sp.2.1, fun a e => ⟨(h.sp.2.2 a e).1, (h.sp.2.2 a e).2.1, Nat.lt_of_lt_of_le (h.sp.2.2 a e).2.2 hb.size⟩⟩⟩
theorem StF.refl (h : Fa w B p c n P V G) (hb : Below w.heap.size w w1) : StF B p c n P V G w w1 := ⟨V, h.ext hb, Ft.of_below hb, fun _ hk => .inl hk⟩
/-- The document's fabric behind a call of the fabric. -/
theorem Bo5.rf_f (h : Bo5 w lo B p q c n P V G A cap xs) (ht : StF B p c n P V G' w w1) : Rf w1 q c.co c.gr c.de A cap xs := by
  obtain ⟨V', h1, h2, h3⟩ := ht
  exact ⟨(h2.block q (lt_of h.rf.bx) h.sp.2.1).trans h.rf.bx, h.rf.sl.ft h2.size (fun a e _ => h2.block _ (h.sp.2.2 a e).2.2 (h.sp.2.2 a e).2.1), h.rf.ne, h.rf.nz⟩
/-- The fabric behind a call of the document's fabric. -/
theorem Bo5.fa_r (h : Bo5 w lo B p q c n P V G A cap xs) (ht : RfP w w1 q c.co c.gr c.de A xs') : Fa w1 B p c n P V G :=
  h.fa.keep ht.tc.size (ht.tc.block p h.fa.lt (Ne.symm h.sp.1) (fun e => by cases e)) (fun k hk => ht.tc.block k (h.fa.fs hk).2.1 (fun e => h.sp.2.1 (e ▸ hk)) (fun e => by cases e))
/-- What a call of both may turn. -/
def XB (n : Nat) (P : Nat → Nat) (V : Nat → Value) (q k : Nat) : Prop := FS n P V k ∨ k = q
/-- Both behind a call of both. -/
def Bo5P (w w' : World) (lo B p q : Nat) (c : Cfg) (n : Nat) (P : Nat → Nat) (V : Nat → Value) (G' : Nat → List Nt) (xs' : List Nt) : Prop :=
  ∃ V' A' cap', Bo5 w' lo B p q c n P V' G' A' cap' xs' ∧ Ft (XB n P V q) w w' ∧ ∀ k, FS n P V' k → FS n P V k ∨ w.heap.size ≤ k
theorem Bo5.fr (h : Bo5 w lo B p q c n P V G A cap xs) (h1 : StF B p c n P V G' w w1) (h2 : RfP w1 w2 q c.co c.gr c.de A xs') (ha : Al c n G' xs') : Bo5P w w2 lo B p q c n P V G' xs' := by
  obtain ⟨V', g1, g2, g3⟩ := h1
  obtain ⟨A', cap', r1, r2⟩ := h2.rf
  have hq := lt_of h.rf.bx
  have hs1 := g2.size
  have hs2 := h2.tc.size
  have hlo := h.lo
  have nq : ¬ FS n P V' q := fun hk => (g3 q hk).elim h.sp.2.1 (fun h9 => by omega)
  have hfa : Fa w2 B p c n P V' G' := g1.keep h2.tc.size (h2.tc.block p g1.lt (Ne.symm h.sp.1) (fun e => by cases e)) (fun k hk => h2.tc.block k (g1.fs hk).2.1 (fun e => nq (e ▸ hk)) (fun e => by cases e))
  refine ⟨V', A', cap', ⟨hfa, r1, ha, ⟨hlo.1, by omega, hlo.2.2.1, fun a e => (r2 a e).elim (fun e2 => hlo.2.2.2 a e2) (fun e2 => by omega)⟩, ⟨h.sp.1, nq, fun a e => ?_⟩⟩, ⟨h2.tc.os.trans g2.os, h2.tc.tape.trans g2.tape, h2.tc.output.trans g2.output, by omega, fun k hk hX => (h2.tc.block k (by omega) (fun e => hX (.inr e)) (fun e => by cases e)).trans (g2.block k hk (fun e => hX (.inl e)))⟩, g3⟩
  rcases r2 a e with e2 | e2
  · have h9 := h.sp.2.2 a e2
    exact ⟨h9.1, fun hk => (g3 _ hk).elim h9.2.1 (fun h8 => by omega), by omega⟩
  · have hpl := h.fa.lt
    exact ⟨by omega, fun hk => by have := (g1.fs hk).2.1; omega, e2.2⟩
theorem Bo5.rfs (h : Bo5 w lo B p q c n P V G A cap xs) (h2 : RfP w w1 q c.co c.gr c.de A xs') (h1 : StF B p c n P V G' w1 w2) (ha : Al c n G' xs') : Bo5P w w2 lo B p q c n P V G' xs' := by
  obtain ⟨V', g1, g2, g3⟩ := h1
  obtain ⟨A', cap', r1, r2⟩ := h2.rf
  have hq := lt_of h.rf.bx
  have hs1 := g2.size
  have hs2 := h2.tc.size
  have hlo := h.lo
  have hpl := h.fa.lt
  have fsl : ∀ k, FS n P V k → k < w.heap.size := fun k hk => (h.fa.fs hk).2.1
  have ap : ∀ a, A' = some a → a.block ≠ p ∧ ¬ FS n P V a.block ∧ a.block < w1.heap.size := fun a e => by
    rcases r2 a e with e2 | e2
    · have h9 := h.sp.2.2 a e2
      exact ⟨h9.1, h9.2.1, by omega⟩
    · exact ⟨by omega, fun hk => by have := fsl _ hk; omega, e2.2⟩
  have hrf : Rf w2 q c.co c.gr c.de A' cap' xs' := ⟨(g2.block q (by omega) h.sp.2.1).trans r1.bx, r1.sl.ft g2.size (fun a e _ => g2.block _ (ap a e).2.2 (ap a e).2.1), r1.ne, r1.nz⟩
  have nq : ¬ FS n P V' q := fun hk => (g3 q hk).elim h.sp.2.1 (fun h9 => by omega)
  refine ⟨V', A', cap', ⟨g1, hrf, ha, ⟨hlo.1, by omega, hlo.2.2.1, fun a e => (r2 a e).elim (fun e2 => hlo.2.2.2 a e2) (fun e2 => by omega)⟩, ⟨h.sp.1, nq, fun a e => ⟨(ap a e).1, fun hk => (g3 _ hk).elim (ap a e).2.1 (fun h8 => by have := (ap a e).2.2; omega), by have := (ap a e).2.2; omega⟩⟩⟩, ⟨g2.os.trans h2.tc.os, g2.tape.trans h2.tc.tape, g2.output.trans h2.tc.output, by omega, fun k hk hX => (g2.block k (by omega) (fun e => hX (.inl e))).trans (h2.tc.block k hk (fun e => hX (.inr e)) (fun e => by cases e))⟩, fun k hk => (g3 k hk).imp id (fun h9 => by omega)⟩
/-- A Take of both. -/
theorem Bo5.take (h : Bo5 w lo B p q c n P V G A cap xs) (x y t : Int) : ∃ (o : Nt) (r : Int) (G' : Nat → List Nt) (xs' : List Nt), Al c n G' xs' ∧
    (∀ W, Fa W B p c n P V G → B ≤ W.heap.size → Calls Tryd.prog 33 #[.pointer (some ⟨p, 0, none⟩), .int .i64 x, .int .i64 y, .int .i64 t] W fun e w' => e = .returned (.tuple #[o.val, .int .i64 r]) ∧ StF B p c n P V G' W w') ∧
    (∀ W, Rf W q c.co c.gr c.de A cap xs → Calls Tryd.prog 81 #[.pointer (some ⟨q, 0, none⟩), .int .i64 x, .int .i64 y, .int .i64 t] W fun e w' => e = .returned (.tuple #[o.val, .int .i64 r]) ∧ RfP W w' q c.co c.gr c.de A xs') := by
  have hfew := h.al.few h.fa
  cases hi : inL c x y with
  | false =>
    have hno := inL_no hi
    refine ⟨Nt.zero, 10, G, xs, h.al, fun W hf hB => (ftake_no hf x y t hno).mono ?_, fun W hr => (r5take_rng hr x y t (by omega)).mono ?_⟩
    · rintro e w' ⟨he, hb⟩
      exact ⟨he, StF.refl hf hb⟩
    · rintro e w' ⟨he, hb⟩
      exact ⟨he, hr.still hb⟩
  | true =>
    obtain ⟨i, k, rfl, rfl, h1, h2⟩ := inL_yes hi
    have hn := h.fa.hn
    have hof := h.al.of i k h2 (by omega)
    by_cases h0 : G (i * 4 + k) = []
    · refine ⟨Nt.zero, 12, G, xs, h.al, fun W hf hB => (ftake_none hf h1 h2 t h0).mono ?_, fun W hr => (r5take_none hr (by omega) i k t (by omega) (hof.trans h0)).mono ?_⟩
      · rintro e w' ⟨he, hb⟩
        exact ⟨he, StF.refl hf hb⟩
      · rintro e w' ⟨he, hb⟩
        exact ⟨he, hr.still hb⟩
    · have hp : 0 < (G (i * 4 + k)).length := List.length_pos_iff.2 h0
      obtain ⟨hj, hw⟩ := which5_of t _ hp
      refine ⟨atN (G (i * 4 + k)) (which5 t (G (i * 4 + k)).length), 0, _, _, h.al.take i k (which5 t (G (i * 4 + k)).length) h2 (by omega), fun W hf hB => (ftake_ok hf hB h1 h2 t hj hw).mono ?_, fun W hr => ?_⟩
      · rintro e w' ⟨he, v', g1, g2, g3⟩
        exact ⟨he, _, g1, g2, g3⟩
      · have := r5take_ok hr (by omega) i k t (by omega) (which5 t (G (i * 4 + k)).length) (by rw [hof]; exact hj) (by rw [hof]; exact hw)
        rw [hof] at this
        exact this
/-- A Send of both. -/
theorem Bo5.send (h : Bo5 w lo B p q c n P V G A cap xs) (hg : 1 < lo ∧ 2 < lo) (A0 : Option Addr) (cap0 : Nat) (ys : List Nt) (h0 : A0 = none → cap0 = 0) (hy : ys.length ≤ 20) (hA0 : ∀ a, A0 = some a → 0 < ys.length → a.block < lo) : ∃ (r : Int) (G' : Nat → List Nt) (xs' : List Nt), Al c n G' xs' ∧
    (∀ W, Fa W B p c n P V G → B ≤ W.heap.size → Lims W → Kinds W → SlN W A0 ys → Calls Tryd.prog 32 #[.pointer (some ⟨p, 0, none⟩), .slice A0 ys.length cap0] W fun e w' => e = .returned (.int .i64 r) ∧ StF B p c n P V G' W w') ∧
    (∀ W, Rf W q c.co c.gr c.de A cap xs → SlN W A0 ys → Calls Tryd.prog 80 #[.pointer (some ⟨q, 0, none⟩), .slice A0 ys.length cap0] W fun e w' => e = .returned (.int .i64 r) ∧ RfP W w' q c.co c.gr c.de A xs') := by
  have hfew := h.al.few h.fa
  have hlo := h.lo
  have hs := h.al.send ys
  refine ⟨sendR c n G ys, if sendR c n G ys = 0 then addL G ys else G, sentD c n xs ys, ?_, fun W hf hB hL hK hsl => (fsend_any hf hB hL hK ⟨by omega, by omega⟩ A0 cap0 ys hsl (fun a e hp hk => by have := hA0 a e hp; have := (hf.fs hk).1; omega) hy).mono ?_, fun W hr hsl => ?_⟩
  · unfold sentD
    rw [hs]
    by_cases h9 : sendR c n G ys = 0
    · rw [if_pos h9, if_pos h9]
      exact h.al.add (sendR_all h9)
    · rw [if_neg h9, if_neg h9]
      exact h.al
  · rintro e w' ⟨he, hp⟩
    refine ⟨he, ?_⟩
    rcases hp with ⟨h9, hb⟩ | ⟨h9, V', g1, g2, g3⟩
    · rw [if_neg h9]
      exact StF.refl hf hb
    · rw [if_pos h9]
      exact ⟨V', g1, g2, g3⟩
  · have := r5send_any (n := n) h.fa.ok hr h.fa.hn (by omega) A0 cap0 hsl h0 hy
    rw [hs] at this
    exact this
end

end Go.Proofs.YtkfnjpmigifomaaDoor
namespace Go.Proofs.YtkfnjpmigifomaaDoor
open Go.RowKit Go.Shelf
attribute [local go_sem] Oper.semAt_some

section
variable {w : World} {lo B p q : Nat} {c : Cfg} {n cap : Nat} {P : Nat → Nat} {V : Nat → Value} {G : Nat → List Nt} {A : Option Addr} {xs : List Nt}
theorem Lims.ft {w w' : World} {S : Nat → Prop} (h : Lims w) (ht : Ft S w w') (hs : ¬ S 1) : Lims w' := by
  have hl := h.lt
  obtain ⟨t, fr, h⟩ := h
  exact ⟨t, fr, (ht.block _ hl hs).trans h⟩
theorem Kinds.ft {w w' : World} {S : Nat → Prop} (h : Kinds w) (ht : Ft S w w') (hs : ¬ S 2) : Kinds w' := h.block (ht.block _ h.lt hs)
theorem StF.ext {w w1 w2 : World} {G' : Nat → List Nt} (h : StF B p c n P V G' w w1) (hb : Below w1.heap.size w1 w2) : StF B p c n P V G' w w2 := by
  obtain ⟨V', g1, g2, g3⟩ := h
  exact ⟨V', g1.ext hb, g2.trans (Ft.of_below (S := FS n P V) hb) (fun k hk => .inl hk), g3⟩
theorem Bo5P.ext {w w1 w2 : World} {G' : Nat → List Nt} {xs' : List Nt} (h : Bo5P w w1 lo B p q c n P V G' xs') (hb : Below w1.heap.size w1 w2) : Bo5P w w2 lo B p q c n P V G' xs' := by
  obtain ⟨V', A', cap', g1, g2, g3⟩ := h
  exact ⟨V', A', cap', g1.ext hb, g2.trans (Ft.of_below (S := XB n P V q) hb) (fun k hk => .inl hk), g3⟩
theorem Tch.ft {w w' : World} {q : Nat} (h : Tch w w' q none) : Ft (fun k => k = q) w w' := ⟨h.os, h.tape, h.output, h.size, fun k hk hq => h.block k hk hq (fun e => by cases e)⟩
set_option maxRecDepth 100000 in
set_option maxHeartbeats 8000000 in
theorem does5_any (h : Bo5 w lo B p q c n P V G A cap xs) (hg : 1 < lo ∧ 2 < lo) (hL : Lims w) (hK : Kinds w) (o : Op5) (hsl : SlN w o.A o.ys) (h0 : o.A = none → o.c = 0) (hy : o.ys.length ≤ 20) (hA0 : ∀ a, o.A = some a → 0 < o.ys.length → a.block < lo) :
    Calls Tryd.prog 38 #[.pointer (some ⟨p, 0, none⟩), .pointer (some ⟨q, 0, none⟩), .agg #[.int .i64 o.a, .int .i64 o.co, .int .i64 o.la, .int .i64 o.wh, .slice o.A o.ys.length o.c]] w fun e w' => e = .returned (.bool true) ∧ ∃ G' xs', Bo5P w w' lo B p q c n P V G' xs' := by
  obtain ⟨wb, hwb⟩ : ∃ wb, wb = w.alloc (.cells #[.int .i64 o.a, .int .i64 o.co, .int .i64 o.la, .int .i64 o.wh, .slice o.A o.ys.length o.c] 71) := ⟨_, rfl⟩
  obtain ⟨b, hb⟩ : ∃ b, b = w.heap.size := ⟨_, rfl⟩
  have hbb : wb.heap[b]? = some (.cells #[.int .i64 o.a, .int .i64 o.co, .int .i64 o.la, .int .i64 o.wh, .slice o.A o.ys.length o.c] 71 (0, 0)) := by rw [hwb, hb]; exact alNew rfl
  have hbw : Below w.heap.size w wb := by rw [hwb]; exact ext_alloc _ (Below.refl _ _)
  have H := Lib.hid (h.ext hbw)
  have HBW := Lib.hid hbw
  have HLK := Lib.hid (And.intro (hL.ext hbw) (hK.ext hbw))
  have HSL := Lib.hid (hsl.ext hbw)
  have HG := Lib.hid hg
  have HA0 := Lib.hid hA0
  have HBB := Lib.hid hbb
  have HBS : Hid (b = w.heap.size ∧ (∀ k, FS n P V k → k < b) ∧ q < b) := Lib.hid ⟨hb, fun k hk => by have := (h.fa.fs hk).2.1; omega, by have := lt_of h.rf.bx; omega⟩
  have HSD := Lib.hid (h.send hg o.A o.c o.ys h0 hy hA0)
  have HTK := Lib.hid (h.take o.co o.la o.wh)
  have HEND : Hid (∀ w' G' xs', Bo5P wb w' lo B p q c n P V G' xs' → Bo5P w w' lo B p q c n P V G' xs') := Lib.hid (fun w' G' xs' hp => by
    obtain ⟨V', A', cap', g1, g2, g3⟩ := hp
    exact ⟨V', A', cap', g1, (Ft.of_below (S := XB n P V q) hbw).trans g2 (fun k hk => .inl hk), fun k hk => (g3 k hk).imp id (fun h9 => Nat.le_trans hbw.size h9)⟩)
  have o0 : wb.cell? ⟨b, 0, none⟩ = some (.int .i64 o.a) := by simp [World.cell?, hbb]
  have o1 : wb.cell? ⟨b, 1, none⟩ = some (.int .i64 o.co) := by simp [World.cell?, hbb]
  have o2 : wb.cell? ⟨b, 2, none⟩ = some (.int .i64 o.la) := by simp [World.cell?, hbb]
  have o3 : wb.cell? ⟨b, 3, none⟩ = some (.int .i64 o.wh) := by simp [World.cell?, hbb]
  have o4 : wb.cell? ⟨b, 4, none⟩ = some (.slice o.A o.ys.length o.c) := by simp [World.cell?, hbb]
  have ol := lt_of hbb
  clear h hL hK hsl hg hA0 h0 hy hbw hbb
  by_cases ha : o.a = 0
  · have ea : (o.a == 0) = true := by simpa using ha
    obtain ⟨r, G', xs', hal, hS, hR⟩ := HSD.out
    have HAL := Lib.hid hal
    have HDR := Lib.hid (H.out.ext (ext_drew (Below.refl _ _)))
    have HF0 := Lib.hid (hS wb.drew HDR.out.fa HDR.out.lo.2.1 (HLK.out.1.ext (ext_drew (Below.refl _ _))) (HLK.out.2.ext (ext_drew (Below.refl _ _))) (HSL.out.ext (ext_drew (Below.refl _ _))))
    have HR0 := Lib.hid (hR wb.drew HDR.out.rf (HSL.out.ext (ext_drew (Below.refl _ _))))
    have HF1 := Lib.hid (fun (W : World) (ht : RfP wb.drew W q c.co c.gr c.de A xs') => hS W (HDR.out.fa_r ht) (Nat.le_trans HDR.out.lo.2.1 ht.tc.size) ((HLK.out.1.ext (ext_drew (Below.refl _ _))).ft ht.tc.ft (by have := HDR.out.lo; have := HG.out; omega)) ((HLK.out.2.ext (ext_drew (Below.refl _ _))).ft ht.tc.ft (by have := HDR.out.lo; have := HG.out; omega))
      ((HSL.out.ext (ext_drew (Below.refl _ _))).ft ht.tc.size (fun a e hp => ht.tc.block _ (by have := HA0.out a e hp; have := HDR.out.lo; omega) (by have := HA0.out a e hp; have := HDR.out.lo; omega) (fun e9 => by cases e9))))
    have HR1 := Lib.hid (fun (W : World) (ht : StF B p c n P V G' wb.drew W) => hR W (HDR.out.rf_f ht) ((HSL.out.ext (ext_drew (Below.refl _ _))).ft (by obtain ⟨_, _, h2, _⟩ := ht; exact h2.size) (fun a e hp => by obtain ⟨_, _, h2, _⟩ := ht; exact h2.block _ (by have := HA0.out a e hp; have := HDR.out.lo; omega) (fun hk => by have := HA0.out a e hp; have := HDR.out.lo; have := (HDR.out.fa.fs hk).1; omega))))
    have QF := fun (W : World) (ht : StF B p c n P V G' wb.drew W) => show W.cell? ⟨b, 4, none⟩ = some (.slice o.A o.ys.length o.c) from by
      obtain ⟨_, _, h2, _⟩ := ht
      exact (World.cell?_of_block (a := ⟨b, 4, none⟩) (h2.block b ol (fun hk => by have := HBS.out.2.1 b hk; omega))).trans o4
    have QR := fun (W : World) (ht : RfP wb.drew W q c.co c.gr c.de A xs') => show W.cell? ⟨b, 4, none⟩ = some (.slice o.A o.ys.length o.c) from
      (World.cell?_of_block (a := ⟨b, 4, none⟩) (ht.tc.block b ol (by have := HBS.out; omega) (fun e => by cases e))).trans o4
    have QQ : wb.drew.cell? ⟨b, 4, none⟩ = some (.slice o.A o.ys.length o.c) := o4
    have HQF := Lib.hid QF
    have HQR := Lib.hid QR
    clear ha hal hS hR QF QR
    go_enter Tryd.func38, Tryd.ntmps38
    go_wp2_with fail
    rw [← hwb, ← hb]
    clear hwb hb o0 o1 o2 o3
    go_region_held3 (fun w' => w'.cell? ⟨b, 4, none⟩ = some (.slice o.A o.ys.length o.c)) (exact QQ)
      (first
        | (go_at_call 32; refine HF0.out.mono ?_; rintro e w1 ⟨rfl, hst⟩; have QQ := HQF.out _ hst; have HSF := Lib.hid hst; clear hst)
        | (go_at_call 32; refine (HF1.out _ HSR.out).mono ?_; rintro e w2 ⟨rfl, hst⟩; have QQ : w2.cell? ⟨b, 4, none⟩ = some (.slice o.A o.ys.length o.c) := (World.cell?_of_block (a := ⟨b, 4, none⟩) (hst.choose_spec.2.1.block b (Nat.lt_of_lt_of_le ol HSR.out.tc.size) (fun hk => by have := HBS.out.2.1 b hk; omega))).trans QQ; have HSF := Lib.hid hst; clear hst)
        | (go_at_call 80; refine HR0.out.mono ?_; rintro e w1 ⟨rfl, hst⟩; have QQ := HQR.out _ hst; have HSR := Lib.hid hst; clear hst)
        | (go_at_call 80; refine (HR1.out _ HSF.out).mono ?_; rintro e w2 ⟨rfl, hst⟩; have QQ : w2.cell? ⟨b, 4, none⟩ = some (.slice o.A o.ys.length o.c) := (World.cell?_of_block (a := ⟨b, 4, none⟩) (hst.tc.block b (Nat.lt_of_lt_of_le ol HSF.out.choose_spec.2.1.size) (by have := HBS.out; omega) (fun e => by cases e))).trans QQ; have HSR := Lib.hid hst; clear hst))
    all_goals
      go_wp2_with fail
      go_ret
      refine ⟨by simp, G', xs', HEND.out _ _ _ ?_⟩
      obtain ⟨V', A', cap', g1, g2, g3⟩ := (show Bo5P wb.drew w2 lo B p q c n P V G' xs' from by first | exact HDR.out.fr HSF.out HSR.out HAL.out | exact HDR.out.rfs HSR.out HSF.out HAL.out)
      exact ⟨V', A', cap', g1, ⟨g2.os, g2.tape, g2.output, g2.size, g2.block⟩, g3⟩
  · have ea : (o.a == 0) = false := by simpa using ha
    go_enter Tryd.func38, Tryd.ntmps38
    obtain ⟨y, r, G', xs', hal, hF, hR⟩ := HTK.out
    have HAL := Lib.hid hal
    have HF0 := Lib.hid (hF wb H.out.fa H.out.lo.2.1)
    have HR1 := Lib.hid (fun (W : World) (ht : StF B p c n P V G' wb W) => hR W (H.out.rf_f ht))
    unfold Nt.val at HF0 HR1
    clear ha hal hF hR
    go_wp2_with fail
    rw [← hwb, ← hb]
    clear hwb hb
    refine HF0.out.mono ?_
    rintro e w1 ⟨rfl, hst⟩
    have h2 := hst.choose_spec.2.1
    have hob := (h2.block b ol (fun hk => by have := HBS.out.2.1 b hk; omega)).trans HBB.out
    have HSF := Lib.hid hst
    have HOB := Lib.hid hob
    clear o0 o1 o2 o3 o4 ol h2 hst hob
    have o1 : w1.cell? ⟨b, 1, none⟩ = some (.int .i64 o.co) := by simp [World.cell?, HOB.out]
    have o2 : w1.cell? ⟨b, 2, none⟩ = some (.int .i64 o.la) := by simp [World.cell?, HOB.out]
    have o3 : w1.cell? ⟨b, 3, none⟩ = some (.int .i64 o.wh) := by simp [World.cell?, HOB.out]
    have ol := lt_of HOB.out
    go_wp2_with fail
    have hst1 := HSF.out.ext (ext_alloc (.cells #[.int .i64 y.k, .int .i64 y.c, .int .i64 y.l, .int .i64 y.w, .int .i64 y.s, .int .i64 y.a, .int .i64 y.b, .bool y.d, .int .i64 y.n] 74) (Below.refl w1.heap.size w1))
    have HS1 := Lib.hid hst1
    refine (HR1.out _ hst1).mono ?_
    rintro e w2 ⟨rfl, hrp⟩
    obtain ⟨a1, ha1⟩ : ∃ a1, a1 = w1.heap.size := ⟨_, rfl⟩
    have hya : BxN w2 a1 y := (hrp.tc.block a1 (by rw [ha1]; simp) (by have := HBS.out; omega) (fun e => by cases e)).trans (by rw [ha1]; exact alNew rfl)
    obtain ⟨z0, z1, z2, z3, z4, z5, z6, z7, z8⟩ := hya.cell
    have zl := hya.lt
    have HRP := Lib.hid hrp
    rw [← ha1]
    have hq := fun wx => eqN wx y y
    simp only [decide_true] at hq
    clear hst1 hrp hya ha1 o1 o2 o3 ol
    go_wp2_with fail
    go_ret
    exact ⟨rfl, G', xs', HEND.out _ _ _ ((H.out.fr HS1.out HRP.out HAL.out).ext (ext_alloc _ (Below.refl _ _)))⟩
end

end Go.Proofs.YtkfnjpmigifomaaDoor
