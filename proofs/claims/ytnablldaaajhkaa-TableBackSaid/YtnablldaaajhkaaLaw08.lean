/- What this text holds: a table, and the document's entries, behind calls. No condition. -/
import Derived.Test.YtnablldaaajhkaaTblC
import Derived.Test.YtnablldaaajhkaaRef08B
import Derived.Deep.RegionWith
import Derived.Deep.CutRange
namespace Go.Proofs.Ytnablldaaajhkaa
open Go.RowKit

/-- A call: which granule, whose, whether locked. -/
abbrev Op8 := Int × Int × Bool
def atO (ops : List Op8) (i : Nat) : Op8 := ops[i]?.getD (0, 0, false)
/-- What a call does to entries. -/
def step8 (es : List En) (o : Op8) : List En := if decide (0 ≤ o.1) && decide (o.1 < es.length) && ownB o.2.1 then es.set o.1.toNat (o.2.1, o.2.2) else es
def play8 (n : Nat) (ops : List Op8) : List En := ops.foldl step8 (List.replicate n (0, false))
/-- A slice of calls in memory. -/
def SlO (w : World) (A : Option Addr) (ops : List Op8) : Prop :=
  0 < ops.length → ∃ b off, A = some ⟨b, off, none⟩ ∧ b < w.heap.size ∧ ∀ i, i < ops.length → w.cell? ⟨b, off + i * 3, none⟩ = some (.int .i64 (atO ops i).1) ∧ w.cell? ⟨b, off + i * 3 + 1, none⟩ = some (.int .i64 (atO ops i).2.1) ∧ w.cell? ⟨b, off + i * 3 + 2, none⟩ = some (.bool (atO ops i).2.2)
theorem SlO.ext {w w' : World} {A : Option Addr} {ops : List Op8} (hb : Below w.heap.size w w') (h : SlO w A ops) : SlO w' A ops := fun h0 => by
  obtain ⟨b, off, hA, hl, hc⟩ := h h0
  exact ⟨b, off, hA, Nat.lt_of_lt_of_le hl hb.size, fun i hi => ⟨(hb.cell (p := ⟨b, off + i * 3, none⟩) hl).trans (hc i hi).1, (hb.cell (p := ⟨b, off + i * 3 + 1, none⟩) hl).trans (hc i hi).2.1, (hb.cell (p := ⟨b, off + i * 3 + 2, none⟩) hl).trans (hc i hi).2.2⟩⟩

theorem step8_len (es : List En) (o : Op8) : (step8 es o).length = es.length := by unfold step8; split <;> simp
theorem step8_good {es : List En} (h : Good es) (o : Op8) : Good (step8 es o) := by
  unfold step8
  split
  · rename_i hc
    simp only [Bool.and_eq_true] at hc
    exact good_set h _ hc.2
  · exact h
theorem play8_next {n : Nat} {ops : List Op8} {i : Nat} (h : i < ops.length) : play8 n (ops.take (i + 1)) = step8 (play8 n (ops.take i)) (atO ops i) := by
  unfold play8
  rw [List.take_succ_eq_append_getElem h, List.foldl_append]
  simp [atO, h]
theorem fold_len (ops : List Op8) : ∀ es : List En, (ops.foldl step8 es).length = es.length := by
  induction ops with
  | nil => intro es; rfl
  | cons o os ih => intro es; rw [List.foldl_cons, ih, step8_len]
theorem fold_good (ops : List Op8) : ∀ es : List En, Good es → Good (ops.foldl step8 es) := by
  induction ops with
  | nil => intro es h; exact h
  | cons o os ih => intro es h; exact ih _ (step8_good h o)
theorem play8_len (n : Nat) (ops : List Op8) : (play8 n ops).length = n := by unfold play8; rw [fold_len]; simp
theorem play8_good (n : Nat) (ops : List Op8) : Good (play8 n ops) := fold_good _ _ (good_rep n)

theorem Rb.set {w : World} {b : Nat} {es : List En} (h : Rb w b es) (i : Nat) (hi : i < es.length) (x : En) : Rb (setE w b i x) b (es.set i x) := by
  have c0 := h.go i hi
  have c1 := h.gb i hi
  refine ⟨by rw [setE_size]; exact h.lt, fun j hj => ?_, fun j hj => ?_, fun j => ?_⟩
  · have hj' : j < es.length := by simpa using hj
    unfold setE
    rw [World.cell?_setCell_other _ _ _ _ (fun e => by have := congrArg Addr.off e; simp at this; omega)]
    by_cases hij : i = j
    · subst hij
      rw [World.cell?_setCell_same _ _ _ c0]
      simp [atE, hi]
    · rw [World.cell?_setCell_other _ _ _ _ (fun e => by have := congrArg Addr.off e; simp at this; omega), h.go j hj']
      simp [atE, List.getElem?_set_ne hij]
  · have hj' : j < es.length := by simpa using hj
    have c1' : (w.setCell ⟨b, i * 2, none⟩ (.int .i64 x.1)).cell? ⟨b, i * 2 + 1, none⟩ = some (.bool (atE es i).2) := by
      rw [World.cell?_setCell_other _ _ _ _ (fun e => by have := congrArg Addr.off e; simp at this), c1]
    unfold setE
    by_cases hij : i = j
    · subst hij
      rw [World.cell?_setCell_same _ _ _ c1']
      simp [atE, hi]
    · rw [World.cell?_setCell_other _ _ _ _ (fun e => by have := congrArg Addr.off e; simp at this; omega), World.cell?_setCell_other _ _ _ _ (fun e => by have := congrArg Addr.off e; simp at this; omega), h.gb j hj']
      simp [atE, List.getElem?_set_ne hij]
  · simpa [setE] using h.gf j

/-- What lies ready behind the calls. -/
structure Made (W w : World) (p g b : Nat) (es : List En) : Prop where
  tb : Tb w p g es
  rb : Rb w b es
  bp : b ≠ p
  bg : b ≠ g
  np : W.heap.size ≤ p
  ng : W.heap.size ≤ g
  nb : W.heap.size ≤ b
  below : Below W.heap.size W w

theorem below_undrew {a b : World} (h : Below a.drew.heap.size a.drew b) : Below a.heap.size a b := ⟨h.os, h.tape, h.output, h.size, h.block⟩
theorem grown_undrew {a b : World} {r : Option Nat} (h : a.drew.grownBy b r) : a.grownBy b r := ⟨h.os, h.tape, h.output, h.size, h.block⟩
theorem made_store {W w w2 : World} {p g b : Nat} {es : List En} (h : Made W w p g b es) (hb : Below w.heap.size w w2) (j : Nat) (hj : j < es.length) (x : En) :
    Tb (setE w2 b j x) p g es ∧ Rb (setE w2 b j x) b (es.set j x) ∧ Below W.heap.size W (setE w2 b j x) :=
  ⟨(h.tb.ext hb).of_blocks (Nat.le_of_eq (setE_size _ _ _ _).symm) (setE_block _ _ _ _ _ h.bp.symm) (setE_block _ _ _ _ _ h.bg.symm), (h.rb.ext hb).set j hj x, setE_below (h.below.trans (hb.mono h.below.size)) h.nb⟩
theorem made_set {W wc w3 : World} {p g b : Nat} {es es1 : List En} (h : Tb wc p g es ∧ Rb wc b es1 ∧ Below W.heap.size W wc) (hg : wc.grownBy w3 (some g)) (hT : Tb w3 p g es1) (hbp : b ≠ p) (hbg : b ≠ g) (hp : W.heap.size ≤ p) (hgg : W.heap.size ≤ g) (hb : W.heap.size ≤ b) : Made W w3 p g b es1 :=
  ⟨hT, h.2.1.grown hg (fun e => hbg (Option.some.inj e)), hbp, hbg, hp, hgg, hb, grown_below h.2.2 hg hgg⟩
theorem Made.ext {W w w' : World} {p g b : Nat} {es : List En} (h : Made W w p g b es) (hb : Below w.heap.size w w') : Made W w' p g b es :=
  ⟨h.tb.ext hb, h.rb.ext hb, h.bp, h.bg, h.np, h.ng, h.nb, h.below.trans (hb.mono h.below.size)⟩

set_option maxRecDepth 100000 in
set_option maxHeartbeats 8000000 in
theorem made_any (n : Nat) (A : Option Addr) (cap : Nat) (ops : List Op8) (w : World) (hO : SlO w A ops) (h1 : 1 ≤ n) (h2 : n ≤ 16) (hl : ops.length ≤ 40) :
    Calls Try.prog 26 #[.int .i64 n, .slice A ops.length cap] w fun e w' => ∃ p g b, e = .returned (.tuple #[.pointer (some ⟨p, 0, none⟩), .slice (some ⟨b, 0, none⟩) n n, .bool true]) ∧ Made w w' p g b (play8 n ops) := by
  obtain ⟨i0, hi, hz0, hz1, hz2⟩ := info_parts info_entry8
  have hmk := fun wx => run_make (P := Try.prog) wx 61 93 i0 _ Try.underlying61 hi hz0 .i64 .i64 n n (by omega) (Int.le_refl _) (by rw [hz2]; omega) (by omega)
  rw [hz1] at hmk
  simp only [Int.toNat_natCast, Value.cells] at hmk
  generalize hM : madeCells #[Value.int .i64 0, Value.bool false] (n * 2) = M at hmk
  have HM := Lib.hid hM
  have HO := Lib.hid hO
  clear hM hO
  go_enter Try.func26, Try.ntmps26
  go_wp2_with fail
  refine (new_ok n _ h1 h2).mono ?_
  rintro e w1 ⟨rfl, hT1, hB1, hs1⟩
  have HT1 := Lib.hid hT1
  have HB1 := Lib.hid hB1
  clear hT1 hB1
  go_wp2_with fail
  have hs2 : (w1.alloc (.cells M 93)).heap.size = w.heap.size + 3 := by simp; omega
  have hM0 : Made w (w1.alloc (.cells M 93)) (w.heap.size + 1) w.heap.size (w.heap.size + 2) (play8 n (ops.take 0)) := by
    have he : play8 n (ops.take 0) = List.replicate n (0, false) := rfl
    rw [he]
    have b0 := heap_alloc_new w1 (.cells M 93)
    rw [hs1] at b0
    refine ⟨HT1.out.ext ((Below.refl _ _).alloc (Nat.le_refl _) _), ⟨by rw [hs2]; omega, fun i hi => ?_, fun i hi => ?_, fun i => ?_⟩, by omega, by omega, by omega, by omega, by omega, HB1.out.alloc (by rw [hs1]; omega) _⟩
    · have hin : i < n := by simpa using hi
      have := (made_get (a := .int .i64 0) (b := .bool false) hin).1
      rw [HM.out] at this
      unfold World.cell?
      rw [b0]
      simp [atE, hin, this]
    · have hin : i < n := by simpa using hi
      have := (made_get (a := .int .i64 0) (b := .bool false) hin).2
      rw [HM.out] at this
      unfold World.cell?
      rw [b0]
      simp [atE, hin, this]
    · unfold World.frozen?
      rw [b0]
      simp
  have HMd := Lib.hid hM0
  clear hM0 hs2 hmk HM HT1 HB1
  go_loopg [10] ops.length (fun g10 s10 wr => ∃ k : Nat, k + g10 = ops.length ∧ s10 = .int .i64 k ∧ Hid (Made w wr (w.heap.size + 1) w.heap.size (w.heap.size + 2) (play8 n (ops.take k))))
  case atStart => exact ⟨0, by omega, rfl, HMd⟩
  case round =>
    obtain ⟨k, hk, rfl, HR⟩ := hrel
    by_cases hkl : k < ops.length
    · have ek : decide ((k : Int) < (ops.length : Int)) = true := by simp; omega
      obtain ⟨b, off, rfl, hbl, hcs⟩ := HO.out (by omega)
      obtain ⟨d0, d1, d2⟩ := hcs k hkl
      have hB := HR.out.below
      have hsz := hB.size
      have c0 := (hB.cell (p := ⟨b, off + k * 3, none⟩) hbl).trans d0
      have c1 := (hB.cell (p := ⟨b, off + k * 3 + 1, none⟩) hbl).trans d1
      have c2 := (hB.cell (p := ⟨b, off + k * 3 + 2, none⟩) hbl).trans d2
      have HN := Lib.hid (play8_next (n := n) hkl)
      have HLen := Lib.hid (play8_len n (ops.take k))
      generalize play8 n (ops.take k) = es at *
      generalize hes1 : play8 n (ops.take (k + 1)) = es1 at *
      have HE1 := Lib.hid hes1
      clear hes1
      generalize atO ops k = o at *
      obtain ⟨G, ow, lk⟩ := o
      have hblr : b < wr.heap.size := by omega
      have hrl := HR.out.rb.lt
      simp only at c0 c1 c2 d0 d1 d2
      have D := Lib.hid (And.intro d0 (And.intro d1 d2))
      clear hcs hB d0 d1 d2
      by_cases hyes : (0 ≤ G ∧ G < n) ∧ 0 ≤ ow ∧ ow ≤ 4
      · obtain ⟨⟨h3, h4⟩, h5, h6⟩ := hyes
        obtain ⟨j, rfl⟩ := Int.eq_ofNat_of_zero_le h3
        have hj : j < n := by omega
        have r0 : wr.cell? ⟨w.heap.size + 2, j * 2, none⟩ = _ := HR.out.rb.go j (by rw [HLen.out]; exact hj)
        have r1 : wr.cell? ⟨w.heap.size + 2, j * 2 + 1, none⟩ = _ := HR.out.rb.gb j (by rw [HLen.out]; exact hj)
        have rf := HR.out.rb.gf
        have HS : Hid (es1 = es.set j (ow, lk)) := by
          have h7 : decide ((0 : Int) ≤ (j : Int)) = true := by simp
          have h8 : decide ((j : Int) < (es.length : Int)) = true := by rw [HLen.out]; simpa using h4
          have h9 : ownB ow = true := by simp [ownB, h5, h6]
          show _ = _
          rw [HN.out, step8]
          simp only [h7, h8, h9]
          simp
        have HO9 : Hid (ownB ow = true) := by show _ = _; simp [ownB, h5, h6]
        go_upto_if 63 with (fail)
        go_cut [11] from 25 to 90 (fun s11 wc => s11 = .int .i64 0 ∧ Hid (Tb wc (w.heap.size + 1) w.heap.size es ∧ Rb wc (w.heap.size + 2) es1 ∧ Below w.heap.size w wc))
        case rest =>
          obtain ⟨rfl, HC⟩ := hcut
          have hB := HC.out.2.2
          have hsz2 := hB.size
          have hblc : b < wc.heap.size := by omega
          have c0 := (hB.cell (p := ⟨b, off + k * 3, none⟩) hbl).trans D.out.1
          have c1 := (hB.cell (p := ⟨b, off + k * 3 + 1, none⟩) hbl).trans D.out.2.1
          have c2 := (hB.cell (p := ⟨b, off + k * 3 + 2, none⟩) hbl).trans D.out.2.2
          have HT := Lib.hid HC.out.1
          clear hB
          go_wp2_with fail
          go_region_with (go_at_call 29; refine (set_yes (w.heap.size + 1) w.heap.size es (j : Int) ow lk _ (by first | exact HT.out | exact Tb.ext (ext_drew (Below.refl _ _)) HT.out) (by omega) (by rw [HLen.out]; exact h4) HO9.out).mono ?_; rintro e w3 ⟨rfl, hg3, hT3⟩)
          all_goals (try go_wp2_with fail)
          all_goals go_roundg (ops.length - (k + 1))
          all_goals (try (case measure => omega))
          all_goals exact ⟨k + 1, by omega, by go_num, Lib.hid (by rw [HE1.out]; exact made_set HC.out (grown_undrew hg3) (by rw [HS.out]; exact hT3) (by omega) (by omega) (by omega) (by omega) (by omega))⟩
        case first =>
          go_wp2_with fail
          go_region_with (go_at_call 46; refine (plainE_any _ _ _).mono ?_; rintro e w2 ⟨rfl, hb2⟩; have m0 : w2.cell? ⟨b, off + k * 3, none⟩ = some (.int .i64 (j : Int)) := (hb2.cell (p := ⟨b, off + k * 3, none⟩) hblr).trans c0; have q0 : w2.cell? ⟨w.heap.size + 2, j * 2, none⟩ = some (.int .i64 (atE es j).1) := (hb2.cell (p := ⟨w.heap.size + 2, j * 2, none⟩) hrl).trans r0; have q1 : w2.cell? ⟨w.heap.size + 2, j * 2 + 1, none⟩ = some (.bool (atE es j).2) := (hb2.cell (p := ⟨w.heap.size + 2, j * 2 + 1, none⟩) hrl).trans r1; have qf : ∀ i, w2.frozen? ⟨w.heap.size + 2, i, none⟩ = false := fun i => (hb2.frozen (p := ⟨w.heap.size + 2, i, none⟩) hrl).trans (rf i))
          all_goals (try go_wp2_with fail)
          all_goals go_meet
          all_goals exact ⟨rfl, Lib.hid (by rw [HS.out]; exact made_store HR.out (w2 := w2) (below_undrew hb2) j (by rw [HLen.out]; exact hj) (ow, lk))⟩
      · have hno : ¬ (0 ≤ G ∧ G < es.length ∧ ownB ow = true) := by
          rw [HLen.out]
          simp only [ownB, Bool.and_eq_true, decide_eq_true_eq]
          intro h
          exact hyes ⟨⟨h.1, h.2.1⟩, h.2.2⟩
        have HS : Hid (es1 = es) := by
          show _ = _
          rw [HN.out, step8]
          split
          · rename_i h
            simp only [Bool.and_eq_true, decide_eq_true_eq] at h
            exact absurd ⟨h.1.1, h.1.2, h.2⟩ hno
          · rfl
        have HNo := Lib.hid hno
        have HYes := Lib.hid hyes
        clear hno hyes
        by_cases h3 : G < 0
        · skip
          go_upto_if 63 with (fail)
          go_cut [11] from 25 to 90 (fun s11 wc => s11 = .int .i64 10 ∧ Hid (Below wr.heap.size wr wc))
          case rest =>
            obtain ⟨rfl, HC⟩ := hcut
            have hB := HC.out
            have hsz2 := hB.size
            have hblc : b < wc.heap.size := by omega
            have c0 := (hB.cell (p := ⟨b, off + k * 3, none⟩) hblr).trans c0
            have c1 := (hB.cell (p := ⟨b, off + k * 3 + 1, none⟩) hblr).trans c1
            have c2 := (hB.cell (p := ⟨b, off + k * 3 + 2, none⟩) hblr).trans c2
            have HT := Lib.hid (HR.out.tb.ext hB)
            clear hB
            go_wp2_with fail
            go_region_with (go_at_call 29; refine (set_no (w.heap.size + 1) w.heap.size es G ow lk _ (by first | exact HT.out | exact Tb.ext (ext_drew (Below.refl _ _)) HT.out) HNo.out).mono ?_; rintro e w3 ⟨rfl, hb3⟩)
            all_goals (try go_wp2_with fail)
            all_goals go_roundg (ops.length - (k + 1))
            all_goals (try (case measure => omega))
            all_goals exact ⟨k + 1, by omega, by go_num, Lib.hid (by rw [HE1.out, HS.out]; exact HR.out.ext (HC.out.trans (Below.mono (below_undrew hb3) HC.out.size)))⟩
          case first =>
            go_wp2_with fail
            go_meet
            exact ⟨rfl, Lib.hid (Below.refl _ _)⟩
        by_cases h4 : (n : Int) ≤ G
        · skip
          go_upto_if 63 with (fail)
          go_cut [11] from 25 to 90 (fun s11 wc => s11 = .int .i64 10 ∧ Hid (Below wr.heap.size wr wc))
          case rest =>
            obtain ⟨rfl, HC⟩ := hcut
            have hB := HC.out
            have hsz2 := hB.size
            have hblc : b < wc.heap.size := by omega
            have c0 := (hB.cell (p := ⟨b, off + k * 3, none⟩) hblr).trans c0
            have c1 := (hB.cell (p := ⟨b, off + k * 3 + 1, none⟩) hblr).trans c1
            have c2 := (hB.cell (p := ⟨b, off + k * 3 + 2, none⟩) hblr).trans c2
            have HT := Lib.hid (HR.out.tb.ext hB)
            clear hB
            go_wp2_with fail
            go_region_with (go_at_call 29; refine (set_no (w.heap.size + 1) w.heap.size es G ow lk _ (by first | exact HT.out | exact Tb.ext (ext_drew (Below.refl _ _)) HT.out) HNo.out).mono ?_; rintro e w3 ⟨rfl, hb3⟩)
            all_goals (try go_wp2_with fail)
            all_goals go_roundg (ops.length - (k + 1))
            all_goals (try (case measure => omega))
            all_goals exact ⟨k + 1, by omega, by go_num, Lib.hid (by rw [HE1.out, HS.out]; exact HR.out.ext (HC.out.trans (Below.mono (below_undrew hb3) HC.out.size)))⟩
          case first =>
            go_wp2_with fail
            go_meet
            exact ⟨rfl, Lib.hid (Below.refl _ _)⟩
        by_cases h5 : ow < 0
        · skip
          go_upto_if 63 with (fail)
          go_cut [11] from 25 to 90 (fun s11 wc => s11 = .int .i64 10 ∧ Hid (Below wr.heap.size wr wc))
          case rest =>
            obtain ⟨rfl, HC⟩ := hcut
            have hB := HC.out
            have hsz2 := hB.size
            have hblc : b < wc.heap.size := by omega
            have c0 := (hB.cell (p := ⟨b, off + k * 3, none⟩) hblr).trans c0
            have c1 := (hB.cell (p := ⟨b, off + k * 3 + 1, none⟩) hblr).trans c1
            have c2 := (hB.cell (p := ⟨b, off + k * 3 + 2, none⟩) hblr).trans c2
            have HT := Lib.hid (HR.out.tb.ext hB)
            clear hB
            go_wp2_with fail
            go_region_with (go_at_call 29; refine (set_no (w.heap.size + 1) w.heap.size es G ow lk _ (by first | exact HT.out | exact Tb.ext (ext_drew (Below.refl _ _)) HT.out) HNo.out).mono ?_; rintro e w3 ⟨rfl, hb3⟩)
            all_goals (try go_wp2_with fail)
            all_goals go_roundg (ops.length - (k + 1))
            all_goals (try (case measure => omega))
            all_goals exact ⟨k + 1, by omega, by go_num, Lib.hid (by rw [HE1.out, HS.out]; exact HR.out.ext (HC.out.trans (Below.mono (below_undrew hb3) HC.out.size)))⟩
          case first =>
            go_wp2_with fail
            go_meet
            exact ⟨rfl, Lib.hid (Below.refl _ _)⟩
        · have h6 : 4 < ow := by
            have := HYes.out
            omega
          go_upto_if 63 with (fail)
          go_cut [11] from 25 to 90 (fun s11 wc => s11 = .int .i64 10 ∧ Hid (Below wr.heap.size wr wc))
          case rest =>
            obtain ⟨rfl, HC⟩ := hcut
            have hB := HC.out
            have hsz2 := hB.size
            have hblc : b < wc.heap.size := by omega
            have c0 := (hB.cell (p := ⟨b, off + k * 3, none⟩) hblr).trans c0
            have c1 := (hB.cell (p := ⟨b, off + k * 3 + 1, none⟩) hblr).trans c1
            have c2 := (hB.cell (p := ⟨b, off + k * 3 + 2, none⟩) hblr).trans c2
            have HT := Lib.hid (HR.out.tb.ext hB)
            clear hB
            go_wp2_with fail
            go_region_with (go_at_call 29; refine (set_no (w.heap.size + 1) w.heap.size es G ow lk _ (by first | exact HT.out | exact Tb.ext (ext_drew (Below.refl _ _)) HT.out) HNo.out).mono ?_; rintro e w3 ⟨rfl, hb3⟩)
            all_goals (try go_wp2_with fail)
            all_goals go_roundg (ops.length - (k + 1))
            all_goals (try (case measure => omega))
            all_goals exact ⟨k + 1, by omega, by go_num, Lib.hid (by rw [HE1.out, HS.out]; exact HR.out.ext (HC.out.trans (Below.mono (below_undrew hb3) HC.out.size)))⟩
          case first =>
            go_wp2_with fail
            go_meet
            exact ⟨rfl, Lib.hid (Below.refl _ _)⟩
    · have ek : decide ((k : Int) < (ops.length : Int)) = false := by simp; omega
      have HR2 : Hid (Made w wr (w.heap.size + 1) w.heap.size (w.heap.size + 2) (play8 n ops)) := by
        have : ops.take k = ops := List.take_of_length_le (by omega)
        rw [this] at HR
        exact HR
      clear hk
      go_wp2_with fail
      go_ret3
      exact ⟨_, _, _, rfl, HR2.out⟩

end Go.Proofs.Ytnablldaaajhkaa
