/- What this text holds: the document's new fabric; what stands beside the calls of a copied fabric. No condition. What this text holds: the walk of the law FabricCopies. Condition: the tables of kinds and of limits hold what their initialisers lay. -/
import Derived.Test.YtkfnjpmigifomaaDoorDo5
import Derived.Test.YtkfnjpmigifomaaDoorFbK
import Derived.Test.YtkfnjpmigifomaaDoorNtI
import Derived.Deep.RegionHeld3
namespace Go.Proofs.YtkfnjpmigifomaaDoor
open Go.RowKit Go.Shelf
attribute [local go_sem] Oper.semAt_some

theorem rnew5_any (c : Cfg) (w : World) : Calls Tryd.prog 37 #[.agg #[.int .i64 c.co, .int .i64 c.gr, .int .i64 c.se, .int .i64 c.wa, .int .i64 c.de, .int .i64 c.en, .int .i64 c.ba]] w fun e w' => ∃ q, e = .returned (.pointer (some ⟨q, 0, none⟩)) ∧ Rf w' q c.co c.gr c.de none 0 [] ∧ w.heap.size ≤ q ∧ Below w.heap.size w w' := by
  go_enter Tryd.func37, Tryd.ntmps37
  go_wp2_with fail
  go_ret
  exact ⟨_, rfl, ⟨alNew (by simp), fun h => absurd h (by simp), fun a e => (by cases e), fun _ => rfl⟩, by omega, (by repeat (with_reducible first | exact Below.refl _ _ | assumption | (refine ext_next (by assumption) ?_) | apply ext_alloc | apply ext_past | apply ext_drew | apply ext_drewN))⟩
section
variable {w W1 W2 W3 Z Y : World} {lo B p q q2 x : Nat} {c : Cfg} {n cap cap2 : Nat} {P P' : Nat → Nat} {V V' : Nat → Value} {G : Nat → List Nt} {A A2 : Option Addr} {xs zs : List Nt} {fv : Value}
theorem Bo5.keep (h : Bo5 W1 lo B p q c n P V G A cap xs) (hb12 : Below W1.heap.size W1 W2) (hb23 : Below W2.heap.size W2 W3) (hb3Z : Below W3.heap.size W3 Z) (hx : Fa W2 W1.heap.size x c n P' V' G) (hit : ItAt W2.heap.size W3 fv zs) (hq2 : W3.heap.size ≤ q2) (hft : Ft (XB n P V q2) Z Y) :
    Fa Y W1.heap.size x c n P' V' G ∧ ItAt W2.heap.size Y fv zs ∧ Rf Y q c.co c.gr c.de A cap xs := by
  have s1 := hb12.size
  have s2 := hb23.size
  have s3 := hb3Z.size
  have s4 := hft.size
  have hk : ∀ k, k < W3.heap.size → ¬ FS n P V k → Y.heap[k]? = W3.heap[k]? := fun k h1 h2 => (hft.block k (by omega) (fun h3 => h3.elim h2 (fun e => by omega))).trans (hb3Z.block k h1)
  have fsl : ∀ k, FS n P V k → k < W1.heap.size := fun k h1 => (h.fa.fs h1).2.1
  have h2 : ∀ k, k < W2.heap.size → W1.heap.size ≤ k → Y.heap[k]? = W2.heap[k]? := fun k h1 h3 => (hk k (by omega) (fun h4 => by have := fsl k h4; omega)).trans (hb23.block k h1)
  refine ⟨hx.keep (by omega) (h2 x hx.lt hx.lo.1) (fun k hs => h2 k (hx.fs hs).2.1 (hx.fs hs).1), hit.keep (fun k h1 h3 => hk k h3 (fun h4 => by have := fsl k h4; omega)), ?_⟩
  have hl := lt_of h.rf.bx
  have h1 : ∀ k, k < W1.heap.size → ¬ FS n P V k → Y.heap[k]? = W1.heap[k]? := fun k h1 h3 => (hk k (by omega) h3).trans ((hb23.block k (by omega)).trans (hb12.block k h1))
  exact ⟨(h1 q hl h.sp.2.1).trans h.rf.bx, h.rf.sl.ft (by omega) (fun a e _ => h1 _ (h.sp.2.2 a e).2.2 (h.sp.2.2 a e).2.1), h.rf.ne, h.rf.nz⟩
/-- The fabric and the document's copy. -/
theorem Bo5.other (h : Bo5 W1 lo B p q c n P V G A cap xs) (hb : Below W1.heap.size W1 Z) (hr : Rf Z q2 c.co c.gr c.de A2 cap2 xs) (hq2 : W1.heap.size ≤ q2) (hA2 : ∀ a, A2 = some a → W1.heap.size ≤ a.block ∧ a.block < Z.heap.size) : Bo5 Z lo B p q2 c n P V G A2 cap2 xs := by
  have s1 := hb.size
  have hlo := h.lo
  have hpl := h.fa.lt
  have fsl : ∀ k, FS n P V k → k < W1.heap.size := fun k h1 => (h.fa.fs h1).2.1
  exact ⟨h.fa.ext hb, hr, h.al, ⟨hlo.1, by omega, by omega, fun a e => by have := hA2 a e; omega⟩, ⟨by omega, fun hk => by have := fsl _ hk; omega, fun a e => ⟨by have := hA2 a e; omega, fun hk => by have := fsl _ hk; have := hA2 a e; omega, (hA2 a e).2⟩⟩⟩
theorem Bo5.xlo (h : Bo5 W1 lo B p q c n P V G A cap xs) : ∀ k, XB n P V q k → lo ≤ k := fun k hk => hk.elim (fun h1 => by have := (h.fa.fs h1).1; have := h.lo; omega) (fun e => by have := h.lo; omega)
/-- Below, behind a call of both. -/
theorem Bo5P.below {G' : Nat → List Nt} {xs' : List Nt} (hb : Below w.heap.size w W1) (h : Bo5 W1 w.heap.size B p q c n P V G A cap xs) (hp : Bo5P W1 W2 w.heap.size B p q c n P V G' xs') : Below w.heap.size w W2 := by
  obtain ⟨_, _, _, _, g2, _⟩ := hp
  exact g2.below hb h.xlo
end

end Go.Proofs.YtkfnjpmigifomaaDoor
namespace Go.Proofs.YtkfnjpmigifomaaDoor
open Go.RowKit Go.Shelf
attribute [local go_sem] Oper.semAt_some

theorem cfg5b_at {W : World} {B : Nat} {c : Cfg} {t : TypeId} {fr : Nat × Nat} (h : W.heap[B]? = some (.cells #[.int .i64 c.co, .int .i64 c.gr, .int .i64 c.se, .int .i64 c.wa, .int .i64 c.de, .int .i64 c.en, .int .i64 c.ba] t fr)) : W.cell? ⟨B, 0, none⟩ = some (.int .i64 c.co) ∧ W.cell? ⟨B, 1, none⟩ = some (.int .i64 c.gr) ∧ W.cell? ⟨B, 2, none⟩ = some (.int .i64 c.se) ∧ W.cell? ⟨B, 3, none⟩ = some (.int .i64 c.wa) ∧ W.cell? ⟨B, 4, none⟩ = some (.int .i64 c.de) ∧ W.cell? ⟨B, 5, none⟩ = some (.int .i64 c.en) ∧ W.cell? ⟨B, 6, none⟩ = some (.int .i64 c.ba) := by
  simp [World.cell?, h]
section
variable {w : World} {c : Cfg} {A1 A2 : Option Addr} {l m : List Op5} {cap1 cap2 : Nat}
set_option maxRecDepth 100000 in
set_option maxHeartbeats 8000000 in
theorem copies5_no (hP : SlP w A1 l) (hm : l.length ≤ maxLen) (hP2 : SlP w A2 m) (hm2 : m.length ≤ maxLen) (hL : Lims w) (hK : Kinds w) (h : ¬ c.ok ∨ few5 l = false ∨ few5 m = false) :
    Calls Tryd.prog 7 #[.agg #[.int .i64 c.co, .int .i64 c.gr, .int .i64 c.se, .int .i64 c.wa, .int .i64 c.de, .int .i64 c.en, .int .i64 c.ba], .slice A1 l.length cap1, .slice A2 m.length cap2] w fun e w' => e = .returned (.bool true) ∧ Below w.heap.size w w' := by
  have HL := Lib.hid hL
  have HK := Lib.hid hK
  have HP := Lib.hid hP
  have HP2 := Lib.hid hP2
  have HM := Lib.hid (And.intro hm hm2)
  clear hL hK hP hm hP2 hm2
  by_cases hc : c.ok
  case neg =>
    clear h
    go_enter Tryd.func7, Tryd.ntmps7
    go_wp2_with fail
    refine (may01_no hc _).mono ?_
    rintro e w1 ⟨rfl, hb⟩
    have HB := Lib.hid (ext_trans (ext_alloc _ (Below.refl _ _)) hb)
    clear hb
    go_wp2_with fail
    refine (awake05 _ (HL.out.ext HB.out) (HK.out.ext HB.out)).mono ?_
    rintro e w2 ⟨rfl, hb⟩
    have HB2 := Lib.hid (ext_trans HB.out hb)
    clear hb
    go_wp2_with fail
    go_ret
    exact ⟨rfl, HB2.out⟩
  cases hl : few5 l with
  | false =>
    clear h
    have HF := Lib.hid hl
    clear hl
    go_enter Tryd.func7, Tryd.ntmps7
    go_wp2_with fail
    refine (may01_yes hc _).mono ?_
    rintro e w1 ⟨rfl, hb⟩
    have HB := Lib.hid (ext_trans (ext_alloc _ (Below.refl _ _)) hb)
    have HW := Lib.hid (few5_any A1 cap1 l w1 (HP.out.ext HB.out) HM.out.1)
    rw [HF.out] at HW
    clear hb
    go_wp2_with fail
    refine HW.out.mono ?_
    rintro e w1' ⟨rfl, hw⟩
    rw [hw]
    clear hw
    go_wp2_with fail
    refine (awake05 _ (HL.out.ext HB.out) (HK.out.ext HB.out)).mono ?_
    rintro e w2 ⟨rfl, hb⟩
    have HB2 := Lib.hid (ext_trans HB.out hb)
    clear hb
    go_wp2_with fail
    go_ret
    exact ⟨rfl, HB2.out⟩
  | true =>
    have h60 : few5 m = false := h.elim (fun h => absurd hc h) (fun h => h.elim (fun h => by rw [hl] at h; cases h) id)
    have HF := Lib.hid hl
    have HF2 := Lib.hid h60
    clear h hl h60
    go_enter Tryd.func7, Tryd.ntmps7
    go_wp2_with fail
    refine (may01_yes hc _).mono ?_
    rintro e w1 ⟨rfl, hb⟩
    have HB := Lib.hid (ext_trans (ext_alloc _ (Below.refl _ _)) hb)
    have HW := Lib.hid (few5_any A1 cap1 l w1 (HP.out.ext HB.out) HM.out.1)
    have HW2 := Lib.hid (few5_any A2 cap2 m w1 (HP2.out.ext HB.out) HM.out.2)
    rw [HF.out] at HW
    rw [HF2.out] at HW2
    clear hb
    go_wp2_with fail
    refine HW.out.mono ?_
    rintro e w1' ⟨rfl, hw⟩
    rw [hw]
    clear hw
    go_wp2_with fail
    refine HW2.out.mono ?_
    rintro e w1' ⟨rfl, hw⟩
    rw [hw]
    clear hw
    go_wp2_with fail
    refine (awake05 _ (HL.out.ext HB.out) (HK.out.ext HB.out)).mono ?_
    rintro e w2 ⟨rfl, hb⟩
    have HB2 := Lib.hid (ext_trans HB.out hb)
    clear hb
    go_wp2_with fail
    go_ret
    exact ⟨rfl, HB2.out⟩
set_option maxRecDepth 100000 in
set_option maxHeartbeats 16000000 in
theorem copies5_yes (hP : SlP w A1 l) (hm : l.length ≤ maxLen) (hP2 : SlP w A2 m) (hm2 : m.length ≤ maxLen) (hL : Lims w) (hK : Kinds w) (hc : c.ok) (hf : few5 l = true) (hf2 : few5 m = true) :
    Calls Tryd.prog 7 #[.agg #[.int .i64 c.co, .int .i64 c.gr, .int .i64 c.se, .int .i64 c.wa, .int .i64 c.de, .int .i64 c.en, .int .i64 c.ba], .slice A1 l.length cap1, .slice A2 m.length cap2] w fun e w' => e = .returned (.bool true) ∧ Below w.heap.size w w' := by
  have H := Lib.hid hP
  have H2 := Lib.hid hP2
  have HM := Lib.hid (And.intro hm hm2)
  have HL := Lib.hid hL
  have HK := Lib.hid hK
  have HC := Lib.hid hc
  have HF := Lib.hid hf
  have HF2 := Lib.hid hf2
  have HFL := Lib.hid (few5_len hf)
  have HFL2 := Lib.hid (few5_len hf2)
  have HGL : Hid (1 < w.heap.size ∧ 2 < w.heap.size) := Lib.hid ⟨hL.lt, hK.lt⟩
  clear hP hm hP2 hm2 hL hK hc hf hf2
  go_enter Tryd.func7, Tryd.ntmps7
  go_wp2_with fail
  refine (may01_yes HC.out _).mono ?_
  rintro e w1 ⟨rfl, hb⟩
  have HB1 := Lib.hid (ext_trans (ext_alloc _ (Below.refl _ _)) hb)
  have hx := (hb.block w.heap.size (by simp)).trans (alNew rfl)
  have HX1 := Lib.hid hx
  have HW := Lib.hid (few5_any A1 cap1 l w1 (H.out.ext HB1.out) HM.out.1)
  have HW2 := Lib.hid (few5_any A2 cap2 m w1 (H2.out.ext HB1.out) HM.out.2)
  rw [HF.out] at HW
  rw [HF2.out] at HW2
  obtain ⟨k0, k1, k2, k3, k4, k5, k6⟩ := cfg5b_at hx
  have xl := lt_of hx
  clear hb hx
  go_wp2_with fail
  refine HW.out.mono ?_
  rintro e w1' ⟨rfl, hw⟩
  rw [hw]
  clear hw HW
  go_wp2_with fail
  refine HW2.out.mono ?_
  rintro e w1' ⟨rfl, hw⟩
  rw [hw]
  clear hw HW2
  go_wp2_with fail
  refine (fnew_ok c HC.out _ (HL.out.ext HB1.out)).mono ?_
  rintro e w2 ⟨p, n, P, rfl, hfa, hb⟩
  have hx := (hb.block w.heap.size xl).trans HX1.out
  have HO2 := Lib.hid (And.intro hfa hb)
  have HB2 := Lib.hid (ext_trans HB1.out hb)
  clear hfa hb k0 k1 k2 k3 k4 k5 k6 xl
  obtain ⟨k0, k1, k2, k3, k4, k5, k6⟩ := cfg5b_at hx
  have xl := lt_of hx
  clear hx
  go_wp2_with fail
  refine (rnew5_any c _).mono ?_
  rintro e w3 ⟨q, rfl, hrf, hq, hb⟩
  have HB3 := Lib.hid (ext_trans HB2.out hb)
  have HO : Hid (Bo5 w3 w.heap.size w1.heap.size p q c n P (fun _ => .slice none 0 0) (fun _ => []) none 0 []) := Lib.hid (by
    have s1 := HB1.out.size
    have s2 := HO2.out.2.size
    have s3 := hb.size
    have hfl : ∀ k, FS n P (fun _ => .slice none 0 0) k → k < w2.heap.size := fun k hk => (HO2.out.1.fs hk).2.1
    have hpl := HO2.out.1.lt
    exact ⟨HO2.out.1.ext hb, hrf, Al.nil, ⟨s1, by omega, by omega, fun a e => by cases e⟩, ⟨by omega, fun hk => by have := hfl _ hk; omega, fun a e => by cases e⟩⟩)
  clear k0 k1 k2 k3 k4 k5 k6 xl hb hrf hq HO2 HB1 HX1 HB2
  go_wp2_with fail
  obtain ⟨B, hB⟩ : ∃ B, B = w1.heap.size := ⟨_, rfl⟩
  rw [← hB] at HO
  clear hB
  go_loopg [10] l.length (fun g s10 wr => ∃ k : Nat, s10 = .int .i64 k ∧ k + g = l.length ∧ Hid (Below w.heap.size w wr) ∧ Hid (∃ V G A cap xs, Bo5 wr w.heap.size B p q c n P V G A cap xs))
  case atStart => exact ⟨0, rfl, by omega, HB3, Lib.hid ⟨_, _, _, _, _, HO.out⟩⟩
  case round =>
    clear HO HB3
    obtain ⟨k, rfl, hk, HB, HR⟩ := hrel
    by_cases hlt : k < l.length
    · have ek : decide ((k : Int) < (l.length : Int)) = true := by simp; omega
      have ek2 : decide (k < l.length) = true := by simpa using hlt
      obtain ⟨V, G, A, cap, xs, hbo⟩ := HR.out
      obtain ⟨b, off, rfl, hbl, hcs⟩ := H.out.cells (by omega)
      obtain ⟨o, ho⟩ : ∃ o, o = atP l k := ⟨_, rfl⟩
      have hcx : ∀ j u, o.cells[j]? = some u → wr.cell? ⟨b, off + k * 5 + j, none⟩ = some u := fun j u hu => (HB.out.cell (p := ⟨b, off + k * 5 + j, none⟩) hbl).trans (hcs k hlt j u (ho ▸ hu))
      have y0 : wr.cell? ⟨b, off + k * 5, none⟩ = _ := hcx 0 _ rfl
      have y1 := hcx 1 _ rfl
      have y2 := hcx 2 _ rfl
      have y3 := hcx 3 _ rfl
      have y4 := hcx 4 _ rfl
      have hkl : (k : Int) < (l.length : Int) := by omega
      have h40 := HFL.out.1
      have HLT := Lib.hid (And.intro hk hlt)
      have hnt := H.out.notes k hlt
      have hbk := fun h0 => H.out.blk hlt h0
      have h20 := HFL.out.2 k hlt
      rw [← ho] at hnt hbk h20
      have HDO := Lib.hid (does5_any hbo HGL.out (HL.out.ext HB.out) (HK.out.ext HB.out) o (hnt.1.ext HB.out) hnt.2 h20 (fun a e h0 => hbk h0 a e))
      have HBO := Lib.hid hbo
      clear hcx hcs hk hlt hbo hnt hbk h20 ho HR
      go_wp2_with fail
      refine HDO.out.mono ?_
      rintro e w5 ⟨rfl, G', xs', hp⟩
      have HB5 := Lib.hid (Bo5P.below HB.out HBO.out hp)
      have HP5 := Lib.hid hp
      clear hp HDO
      go_wp2_with fail
      go_roundg (l.length - (k + 1))
      case measure => have := HLT.out; omega
      case rel =>
        obtain ⟨V', A', cap', g1, _, _⟩ := HP5.out
        exact ⟨k + 1, by go_num, by have := HLT.out; omega, HB5, Lib.hid ⟨_, _, _, _, _, g1⟩⟩
    · have ek : decide ((k : Int) < (l.length : Int)) = false := by simp; omega
      have ek2 : decide (k < l.length) = false := by simpa using hlt
      obtain ⟨V, G, A, cap, xs, hbo⟩ := HR.out
      have HBO := Lib.hid hbo
      have HCP := Lib.hid (fcopy_ok hbo.fa)
      clear hbo hk hlt HR
      go_wp2_with fail
      refine HCP.out.mono ?_
      rintro e w2 ⟨x, P', V', rfl, hx, hb⟩
      have HX := Lib.hid hx
      have HB12 := Lib.hid hb
      have HAL := Lib.hid (fall_it (HBO.out.fa.ext hb) HBO.out.al)
      clear hx hb HCP
      go_wp2_with fail
      refine HAL.out.mono ?_
      rintro e w3 ⟨fv, rfl, hit, hb⟩
      have HIT := Lib.hid hit
      have HB23 := Lib.hid hb
      have HRC := Lib.hid (rcopy_any (HBO.out.rf.ext (ext_trans HB12.out hb)) (by have := HBO.out.al.few HBO.out.fa; omega))
      clear hit hb HAL
      go_wp2_with fail
      refine HRC.out.mono ?_
      rintro e w4 ⟨q2, rfl, hq2, hb, A2', cap2', hr2, ha2⟩
      have HB34 := Lib.hid hb
      have HR2 := Lib.hid (And.intro hr2 (And.intro hq2 ha2))
      have HSM := Lib.hid (same5_any (HX.out.ext (ext_trans HB23.out hb)) (HBO.out.rf.ext (ext_trans HB12.out (ext_trans HB23.out hb))) HBO.out.al)
      clear hq2 hb hr2 ha2 HRC
      go_wp2_with fail
      refine HSM.out.mono ?_
      rintro e Z ⟨rfl, hb⟩
      have HB4Z := Lib.hid hb
      have HB1Z := Lib.hid (ext_trans HB12.out (ext_trans HB23.out (ext_trans HB34.out hb)))
      have HBZ := Lib.hid (ext_trans HB.out HB1Z.out)
      have HBOZ : Hid (Bo5 Z w.heap.size B p q2 c n P V G A2' cap2' xs) := Lib.hid (by
        have s1 := HB12.out.size
        have s2 := HB23.out.size
        have s4 := hb.size
        exact HBO.out.other HB1Z.out (HR2.out.1.ext hb) (by have := HR2.out.2.1; omega) (fun a e => by have := HR2.out.2.2 a e; omega))
      clear hb HSM
      go_wp2_with fail
      go_loopg [14] m.length (fun g s14 wr => ∃ k : Nat, s14 = .int .i64 k ∧ k + g = m.length ∧ Hid (Below w.heap.size w wr) ∧ Hid (∃ G' xs', Bo5P Z wr w.heap.size B p q2 c n P V G' xs'))
      case atStart => exact ⟨0, rfl, by omega, HBZ, Lib.hid ⟨G, xs, V, A2', cap2', HBOZ.out, Ft.of_below (Below.refl _ _), fun _ hk => .inl hk⟩⟩
      case round =>
        obtain ⟨k, rfl, hk, HB, HR⟩ := hrel
        obtain ⟨G', xs', V2, A3, cap3, hbo, hft, hnw⟩ := HR.out
        by_cases hlt : k < m.length
        · have ek : decide ((k : Int) < (m.length : Int)) = true := by simp; omega
          have ek2 : decide (k < m.length) = true := by simpa using hlt
          obtain ⟨b, off, rfl, hbl, hcs⟩ := H2.out.cells (by omega)
          obtain ⟨o, ho⟩ : ∃ o, o = atP m k := ⟨_, rfl⟩
          have hcx : ∀ j u, o.cells[j]? = some u → wr.cell? ⟨b, off + k * 5 + j, none⟩ = some u := fun j u hu => (HB.out.cell (p := ⟨b, off + k * 5 + j, none⟩) hbl).trans (hcs k hlt j u (ho ▸ hu))
          have y0 : wr.cell? ⟨b, off + k * 5, none⟩ = _ := hcx 0 _ rfl
          have y1 := hcx 1 _ rfl
          have y2 := hcx 2 _ rfl
          have y3 := hcx 3 _ rfl
          have y4 := hcx 4 _ rfl
          have hkl : (k : Int) < (m.length : Int) := by omega
          have h40 := HFL2.out.1
          have HLT := Lib.hid (And.intro hk hlt)
          have hnt := H2.out.notes k hlt
          have hbk := fun h0 => H2.out.blk hlt h0
          have h20 := HFL2.out.2 k hlt
          rw [← ho] at hnt hbk h20
          have HDO := Lib.hid (does5_any hbo HGL.out (HL.out.ext HB.out) (HK.out.ext HB.out) o (hnt.1.ext HB.out) hnt.2 h20 (fun a e h0 => hbk h0 a e))
          have HBO2 := Lib.hid hbo
          have HFT := Lib.hid (And.intro hft hnw)
          clear hcx hcs hk hlt hbo hnt hbk h20 ho HR hft hnw
          go_wp2_with fail
          refine HDO.out.mono ?_
          rintro e w5 ⟨rfl, G5, xs5, hp⟩
          have HB5 := Lib.hid (Bo5P.below HB.out HBO2.out hp)
          have HP5 := Lib.hid hp
          clear hp HDO
          go_wp2_with fail
          go_roundg (m.length - (k + 1))
          case measure => have := HLT.out; omega
          case rel =>
            obtain ⟨V6, A6, cap6, g1, g2, g3⟩ := HP5.out
            refine ⟨k + 1, by go_num, by have := HLT.out; omega, HB5, Lib.hid ⟨_, _, V6, A6, cap6, g1, HFT.out.1.trans g2 (fun z hz => hz.elim (fun h1 => (HFT.out.2 z h1).imp .inl id) (fun h1 => .inl (.inr h1))), fun z hz => ?_⟩⟩
            rcases g3 z hz with h1 | h1
            · exact HFT.out.2 z h1
            · exact .inr (Nat.le_trans HFT.out.1.size h1)
        · have ek : decide ((k : Int) < (m.length : Int)) = false := by simp; omega
          have ek2 : decide (k < m.length) = false := by simpa using hlt
          obtain ⟨hxY, hitY, hrY⟩ := HBO.out.keep HB12.out HB23.out (ext_trans HB34.out HB4Z.out) HX.out HIT.out HR2.out.2.1 hft
          have HXY := Lib.hid hxY
          have HIY := Lib.hid hitY
          have HRY := Lib.hid hrY
          have HBO2 := Lib.hid hbo
          have hfew := HBO.out.al.few HBO.out.fa
          obtain ⟨mm, hmm⟩ : ∃ mm : Nat, c.co = mm := ⟨c.co.toNat, by have := HBO.out.fa.ok.1; unfold okAt at this; omega⟩
          have hn := HBO.out.fa.hn
          have hm4 : mm ≤ 4 := by have := HBO.out.fa.n16; omega
          have HRA := Lib.hid (show Calls Tryd.prog 43 #[.pointer (some ⟨q, 0, none⟩)] wr (fun e w' => ∃ v, e = .returned v ∧ w'.ownsRow wr.heap.size 74 9 v (allTo xs n).length (flatN (allTo xs n)) ∧ Below wr.heap.size wr w') by
            have h9 := hrY
            rw [hmm] at h9
            have := rall_any h9 (by omega) hm4
            rw [show mm * 4 = n by omega] at this
            exact this)
          have HAT : Hid ((allTo xs n).length ≤ 1000) := Lib.hid (by rw [HBO.out.al.all n (Nat.le_refl _), HBO.out.al.len HBO.out.fa.hn]; omega)
          clear hk hlt hbo hft hnw HR hxY hitY hrY hfew hmm hn hm4
          go_wp2_with fail
          refine HRA.out.mono ?_
          rintro e y1 ⟨v, rfl, hv, hb⟩
          obtain ⟨A5, cap5, rfl, hs5, -, -, -⟩ := rowN_val hv
          have HY1 := Lib.hid hb
          have HN1 := Lib.hid (notes_it (HIY.out.ext hb) A5 cap5 hs5 HAT.out)
          clear hv hs5 hb HRA
          go_wp2_with fail
          refine HN1.out.mono ?_
          rintro e y2 ⟨rfl, hb⟩
          have HY2 := Lib.hid (ext_trans HY1.out hb)
          have HN2 := Lib.hid (same5_any (HXY.out.ext (ext_trans HY1.out hb)) (HRY.out.ext (ext_trans HY1.out hb)) HBO.out.al)
          clear hb HN1
          go_wp2_with fail
          refine HN2.out.mono ?_
          rintro e y3 ⟨rfl, hb⟩
          have HY3 := Lib.hid (ext_trans HY2.out hb)
          have HN3 := Lib.hid (same5_any (HBO2.out.fa.ext (ext_trans HY2.out hb)) (HBO2.out.rf.ext (ext_trans HY2.out hb)) HBO2.out.al)
          clear hb HN2
          go_wp2_with fail
          refine HN3.out.mono ?_
          rintro e y4 ⟨rfl, hb⟩
          have HY4 := Lib.hid (ext_trans HB.out (ext_trans HY3.out hb))
          clear hb HN3
          go_wp2_with fail
          refine (awake05 _ (HL.out.ext HY4.out) (HK.out.ext HY4.out)).mono ?_
          rintro e y5 ⟨rfl, hb⟩
          have HY5 := Lib.hid (ext_trans HY4.out hb)
          clear hb
          go_wp2_with fail
          go_ret
          exact ⟨rfl, HY5.out⟩
theorem fabriccopies (c : Cfg) (A1 A2 : Option Addr) (l m : List Op5) (cap1 cap2 : Nat) (w : World) (hP : SlP w A1 l) (hm : l.length ≤ maxLen) (hP2 : SlP w A2 m) (hm2 : m.length ≤ maxLen) (hL : Lims w) (hK : Kinds w) :
    Calls Tryd.prog 7 #[.agg #[.int .i64 c.co, .int .i64 c.gr, .int .i64 c.se, .int .i64 c.wa, .int .i64 c.de, .int .i64 c.en, .int .i64 c.ba], .slice A1 l.length cap1, .slice A2 m.length cap2] w fun e w' => e = .returned (.bool true) ∧ Below w.heap.size w w' := by
  by_cases hc : c.ok
  · cases hf : few5 l with
    | true =>
      cases hf2 : few5 m with
      | true => exact copies5_yes hP hm hP2 hm2 hL hK hc hf hf2
      | false => exact copies5_no hP hm hP2 hm2 hL hK (.inr (.inr hf2))
    | false => exact copies5_no hP hm hP2 hm2 hL hK (.inr (.inl hf))
  · exact copies5_no hP hm hP2 hm2 hL hK (.inl hc)
end

end Go.Proofs.YtkfnjpmigifomaaDoor
