/- What this text holds: the document's fabric: its notes of a core and a lane. No condition. What this text holds: the document's fabric: all its notes. No condition. What this text holds: the document's fabric: its copy. No condition. What this text holds: the document's fabric: taking where there is no such lane, or no note. No condition. -/
import Derived.Test.YtkfnjpmigifomaaDoorLaw05
import Derived.Test.YtkfnjpmigifomaaDoorLw05
import Derived.Deep.RegionLaw
namespace Go.Proofs.YtkfnjpmigifomaaDoor
open Go.RowKit

/-- The document's fabric in memory. -/
structure Rf (w : World) (p : Nat) (cores gran depth : Int) (A : Option Addr) (cap : Nat) (xs : List Nt) : Prop where
  bx : w.heap[p]? = some (.cells #[.int .i64 cores, .int .i64 gran, .int .i64 depth, .slice A xs.length cap] 142 (0, 0))
  sl : SlN w A xs
  ne : ∀ a, A = some a → a.block ≠ p
  nz : A = none → cap = 0
theorem Rf.ext {w w' : World} {p : Nat} {cores gran depth : Int} {A : Option Addr} {cap : Nat} {xs : List Nt} (h : Rf w p cores gran depth A cap xs) (hb : Below w.heap.size w w') : Rf w' p cores gran depth A cap xs :=
  ⟨(hb.block _ (lt_of h.bx)).trans h.bx, h.sl.ext hb, h.ne, h.nz⟩
theorem Rf.cells {w : World} {p : Nat} {cores gran depth : Int} {A : Option Addr} {cap : Nat} {xs : List Nt} (h : Rf w p cores gran depth A cap xs) : w.cell? ⟨p, 0, none⟩ = some (.int .i64 cores) ∧ w.cell? ⟨p, 1, none⟩ = some (.int .i64 gran) ∧ w.cell? ⟨p, 2, none⟩ = some (.int .i64 depth) ∧ w.cell? ⟨p, 3, none⟩ = some (.slice A xs.length cap) ∧ p < w.heap.size := by
  refine ⟨?_, ?_, ?_, ?_, lt_of h.bx⟩ <;> simp [World.cell?, h.bx]
/-- The notes of a core and a lane. -/
def isL (co la : Int) (x : Nt) : Bool := (x.c == co) && (laneR x.k == la)
def ofN (xs : List Nt) (co la : Int) : List Nt := xs.filter (isL co la)
theorem ofN_next {xs : List Nt} {k : Nat} (h : k < xs.length) (co la : Int) : ofN (xs.take (k + 1)) co la = ofN (xs.take k) co la ++ if isL co la (atN xs k) then [atN xs k] else [] := by
  unfold ofN
  rw [List.take_succ_eq_append_getElem h, List.filter_append]
  have e : atN xs k = xs[k] := by simp [atN, h]
  rw [e]
  cases hb : isL co la xs[k] <;> simp [hb]
theorem ofN_len (xs : List Nt) (k : Nat) (co la : Int) : (ofN (xs.take k) co la).length ≤ xs.length := by
  unfold ofN
  have := List.length_filter_le (isL co la) (xs.take k)
  simp at this
  omega
section
variable {w : World} {p : Nat} {cores gran depth : Int} {A : Option Addr} {cap : Nat} {xs : List Nt}
set_option maxRecDepth 100000 in
set_option maxHeartbeats 4000000 in
theorem rof_any (h : Rf w p cores gran depth A cap xs) (hx : xs.length ≤ 1000) (co la : Int) :
    Calls Tryd.prog 83 #[.pointer (some ⟨p, 0, none⟩), .int .i64 co, .int .i64 la] w fun e w' => ∃ v, e = .returned v ∧ w'.ownsRow w.heap.size 74 9 v (ofN xs co la).length (flatN (ofN xs co la)) ∧ Below w.heap.size w w' := by
  have H := Lib.hid h
  obtain ⟨i0, hi, hz0, hz1, hz2⟩ := info_parts info_note
  clear h
  go_enter Tryd.func83, Tryd.ntmps83
  go_wp2_with fail
  go_loopg [7, 8] xs.length (fun gk s7 s8 wr => ∃ k : Nat, k + gk = xs.length ∧ s8 = .int .i64 k ∧ Hid (Below w.heap.size w wr) ∧ Hid (wr.ownsRow w.heap.size 74 9 s7 (ofN (xs.take k) co la).length (flatN (ofN (xs.take k) co la))))
  case atStart => exact ⟨0, by omega, rfl, Lib.hid (Below.refl _ _), Lib.hid (by simp [ofN, flatN]; exact World.ownsRow_nil _ _ _ _)⟩
  case round =>
    obtain ⟨k, hk, rfl, HB, HO⟩ := hrel
    have hf := H.out.ext HB.out
    obtain ⟨c0, c1, c2, c3, pl⟩ := hf.cells
    by_cases hkl : k < xs.length
    · have ek : decide ((k : Int) < (xs.length : Int)) = true := by simp; omega
      have ek2 : decide (k < xs.length) = true := by simpa using hkl
      have hki : (k : Int) < (xs.length : Int) := by omega
      obtain ⟨b, off, rfl, hbl, hcs⟩ := hf.sl (by omega)
      have cx := hcs k hkl
      have hbr : b < wr.heap.size := hbl
      have x0 : wr.cell? ⟨b, off + k * 9, none⟩ = _ := cx 0 _ rfl
      have x1 := cx 1 _ rfl
      have x2 := cx 2 _ rfl
      have x3 := cx 3 _ rfl
      have x4 := cx 4 _ rfl
      have x5 := cx 5 _ rfl
      have x6 := cx 6 _ rfl
      have x7 := cx 7 _ rfl
      have x8 := cx 8 _ rfl
      have HS := Lib.hid (ofN_next hkl co la)
      have HF := Lib.hid hf
      have HCS := Lib.hid hcs
      have HL := Lib.hid (And.intro (ofN_len xs k co la) hx)
      have HKK := Lib.hid (And.intro hk hkl)
      clear cx hcs hf hk hx hbl
      have hk1 : k < 1000 := by have := HL.out.2; omega
      by_cases hc : (atN xs k).c = co
      · have ec : ((atN xs k).c == co) = true := by simpa using hc
        go_wp2_with fail
        refine (rlane_any (atN xs k).k wr).mono ?_
        rintro e w1 ⟨rfl, hb1⟩
        have HB1 := Lib.hid (ext_trans HB.out hb1)
        have HO1 := Lib.hid (row_keep HO.out (fun g hg => hb1.block g (HO.out.lt g hg).2))
        have HF1 := Lib.hid (HF.out.ext hb1)
        have hcs1 : ∀ j u, (atN xs k).cells[j]? = some u → w1.cell? ⟨b, off + k * 9 + j, none⟩ = some u := fun j u hu => (hb1.cell (p := ⟨b, off + k * 9 + j, none⟩) hbr).trans (HCS.out k HKK.out.2 j u hu)
        have hbr1 : b < w1.heap.size := Nat.lt_of_lt_of_le hbr hb1.size
        have hsz1 := HB1.out.size
        clear hb1 x0 x1 x2 x3 x4 x5 x6 x7 x8 c0 c1 c2 c3 pl hbr
        obtain ⟨c0, c1, c2, c3, pl⟩ := HF1.out.cells
        have x0 : w1.cell? ⟨b, off + k * 9, none⟩ = _ := hcs1 0 _ rfl
        have x1 := hcs1 1 _ rfl
        have x2 := hcs1 2 _ rfl
        have x3 := hcs1 3 _ rfl
        have x4 := hcs1 4 _ rfl
        have x5 := hcs1 5 _ rfl
        have x6 := hcs1 6 _ rfl
        have x7 := hcs1 7 _ rfl
        have x8 := hcs1 8 _ rfl
        clear hcs1
        by_cases hl : laneR (atN xs k).k = la
        · have el : (laneR (atN xs k).k == la) = true := by simpa using hl
          have HSN : Hid (ofN (xs.take (k + 1)) co la = ofN (xs.take k) co la ++ [atN xs k]) := Lib.hid (by rw [HS.out, show isL co la (atN xs k) = true by unfold isL; rw [ec, el]; rfl]; rfl)
          go_wp2_with (at_builtin; refine wpList_append_own _ rfl _ _ 69 rfl w.heap.size 74 i0 Nt.zero.val 9 72 Tryd.underlying69 hi hz0 hz1 hz2 rfl (by decide) _ _ _ rfl (HO1.out.alloc _) ⟨w1.heap.size, 0, none⟩ 1 1 (atN xs k).cells rfl rfl ?c1 ?c2 ?c3 ?c4 ?c5 ?_)
          case c1 =>
            have q := nine_at w1 (atN xs k) 74 _ rfl
            rw [hc] at q
            exact q
          case c2 => exact cells_one _
          case c3 => have := HL.out; unfold maxLen; omega
          case c4 => have := HL.out; omega
          case c5 => have := HL.out; simp; omega
          intro v' w2 hown hgrow _
          have HB2 := Lib.hid (below_grown (HB1.out.alloc hsz1 _) (HO1.out.alloc _) (Nat.le_refl _) hgrow)
          have HO2 : Hid (w2.ownsRow w.heap.size 74 9 v' (ofN (xs.take (k + 1)) co la).length (flatN (ofN (xs.take (k + 1)) co la))) := Lib.hid (by
            rw [HSN.out, List.length_append, flatN_app]
            simpa [flatN] using hown)
          clear hown hgrow
          go_wp2_with fail
          go_roundg (xs.length - (k + 1))
          case measure => have := HKK.out; omega
          case rel => exact ⟨k + 1, by have := HKK.out; omega, by go_num, HB2, HO2⟩
        · have el : (laneR (atN xs k).k == la) = false := by simpa using hl
          have HSN : Hid (ofN (xs.take (k + 1)) co la = ofN (xs.take k) co la) := Lib.hid (by rw [HS.out, show isL co la (atN xs k) = false by unfold isL; rw [ec, el]; rfl]; simp)
          go_wp2_with fail
          go_roundg (xs.length - (k + 1))
          case measure => have := HKK.out; omega
          case rel => exact ⟨k + 1, by have := HKK.out; omega, by go_num, HB1, Lib.hid (by rw [HSN.out]; exact HO1.out)⟩
      · have ec : ((atN xs k).c == co) = false := by simpa using hc
        have HSN : Hid (ofN (xs.take (k + 1)) co la = ofN (xs.take k) co la) := Lib.hid (by rw [HS.out, show isL co la (atN xs k) = false by unfold isL; rw [ec]; rfl]; simp)
        go_wp2_with fail
        go_roundg (xs.length - (k + 1))
        case measure => have := HKK.out; omega
        case rel => exact ⟨k + 1, by have := HKK.out; omega, by go_num, HB, Lib.hid (by rw [HSN.out]; exact HO.out)⟩
    · have ek : decide ((k : Int) < (xs.length : Int)) = false := by simp; omega
      have ek2 : decide (k < xs.length) = false := by simpa using hkl
      have ho : wr.ownsRow w.heap.size 74 9 u7 (ofN xs co la).length (flatN (ofN xs co la)) := by
        have := HO.out
        rw [show k = xs.length by omega, List.take_length] at this
        exact this
      have HO3 := Lib.hid ho
      clear ho hk hkl hf HO
      go_wp2_with fail
      go_ret
      exact ⟨_, rfl, HO3.out, HB.out⟩
end

end Go.Proofs.YtkfnjpmigifomaaDoor
namespace Go.Proofs.YtkfnjpmigifomaaDoor
open Go.RowKit

/-- The notes of the first n lanes. -/
def allTo (xs : List Nt) : Nat → List Nt
  | 0 => []
  | i + 1 => allTo xs i ++ ofN xs ((i / 4 : Nat) : Int) ((i % 4 : Nat) : Int)
theorem allTo_len (xs : List Nt) (n : Nat) : (allTo xs n).length ≤ n * xs.length := by
  induction n with
  | zero => simp [allTo]
  | succ n ih =>
    have h : (ofN xs ((n / 4 : Nat) : Int) ((n % 4 : Nat) : Int)).length ≤ xs.length := List.length_filter_le _ _
    simp only [allTo, List.length_append, Nat.succ_mul]
    omega
section
variable {w : World} {p : Nat} {gran depth : Int} {A : Option Addr} {cap : Nat} {xs : List Nt} {n : Nat}
set_option maxRecDepth 100000 in
set_option maxHeartbeats 4000000 in
theorem rall_any (h : Rf w p n gran depth A cap xs) (hx : xs.length ≤ 1000) (hn : n ≤ 4) :
    Calls Tryd.prog 43 #[.pointer (some ⟨p, 0, none⟩)] w fun e w' => ∃ v, e = .returned v ∧ w'.ownsRow w.heap.size 74 9 v (allTo xs (n * 4)).length (flatN (allTo xs (n * 4))) ∧ Below w.heap.size w w' := by
  have H := Lib.hid h
  have HX := Lib.hid hx
  obtain ⟨i0, hi, hz0, hz1, hz2⟩ := info_parts info_note
  clear h hx
  go_enter Tryd.func43, Tryd.ntmps43
  go_wp2_with fail
  go_loopg [3, 4] n (fun gk s3 s4 wr => ∃ k : Nat, k + gk = n ∧ s4 = .int .i64 k ∧ Hid (Below w.heap.size w wr) ∧ Hid (wr.ownsRow w.heap.size 74 9 s3 (allTo xs (k * 4)).length (flatN (allTo xs (k * 4)))))
  case atStart => exact ⟨0, by omega, rfl, Lib.hid (Below.refl _ _), Lib.hid (by simp [allTo, flatN]; exact World.ownsRow_nil _ _ _ _)⟩
  case round =>
    obtain ⟨k, hk, rfl, HB, HO⟩ := hrel
    obtain ⟨c0, c1, c2, c3, pl⟩ := (H.out.ext HB.out).cells
    by_cases hkl : k < n
    · have ek : decide ((k : Int) < (n : Int)) = true := by simp; omega
      have ek2 : decide (k < n) = true := by simpa using hkl
      have HKK := Lib.hid (And.intro hk (And.intro hkl hn))
      have hk4 : k < 4 := by omega
      clear hk hn
      go_wp2_with fail
      clear c0 c1 c2 c3 pl
      go_loopg [3, 5] 4 (fun gj s3 s5 wr => ∃ j : Nat, j + gj = 4 ∧ s5 = .int .i64 j ∧ Hid (Below w.heap.size w wr) ∧ Hid (wr.ownsRow w.heap.size 74 9 s3 (allTo xs (k * 4 + j)).length (flatN (allTo xs (k * 4 + j)))))
      case atStart => exact ⟨0, by omega, rfl, HB, HO⟩
      case round =>
        clear HB HO
        obtain ⟨j, hj, rfl, HB, HO⟩ := hrel
        by_cases hj4 : j < 4
        · have ej : decide ((j : Int) < 4) = true := by simp; omega
          have ej2 : decide (j < 4) = true := by simpa using hj4
          have HJ := Lib.hid (And.intro hj hj4)
          have HOF := Lib.hid (rof_any (H.out.ext HB.out) HX.out (k : Int) (j : Int))
          clear hj
          go_wp2_with fail
          refine HOF.out.mono ?_
          rintro e w1 ⟨v1, rfl, hv1, hb1⟩
          obtain ⟨A1, cap1, rfl, hs1, hc1, hn1, _⟩ := rowN_val hv1
          have HO1 := Lib.hid (row_keep HO.out (fun g hg => hb1.block g (HO.out.lt g hg).2))
          have HB1 := Lib.hid (ext_trans HB.out hb1)
          have HV1 := Lib.hid (And.intro hs1 hn1)
          have HLE : Hid ((allTo xs (k * 4 + j)).length ≤ 16000 ∧ (ofN xs (k : Int) (j : Int)).length ≤ 1000) := Lib.hid (by
            have h1 := allTo_len xs (k * 4 + j)
            have h2 : (ofN xs (k : Int) (j : Int)).length ≤ xs.length := List.length_filter_le _ _
            have h3 := HX.out
            have h4 : (k * 4 + j) * xs.length ≤ 16 * 1000 := Nat.mul_le_mul (by omega) h3
            omega)
          have HNX : Hid (allTo xs (k * 4 + (j + 1)) = allTo xs (k * 4 + j) ++ ofN xs (k : Int) (j : Int)) := Lib.hid (by
            show allTo xs (k * 4 + j) ++ ofN xs (((k * 4 + j) / 4 : Nat) : Int) (((k * 4 + j) % 4 : Nat) : Int) = _
            rw [show (k * 4 + j) / 4 = k by omega, show (k * 4 + j) % 4 = j by omega])
          have HN1 : Hid (A1 = none → (ofN xs (k : Int) (j : Int)).length = 0 ∧ cap1 = 0) := Lib.hid (fun e => by have := hn1 e; omega)
          obtain ⟨A3, c3, rfl, _, _, _, _⟩ := rowN_val HO1.out
          clear hv1 hb1 hs1 hc1 hn1
          go_wp2_with (at_builtin; refine wpList_append_full _ rfl _ _ 69 rfl w.heap.size 74 i0 Nt.zero.val 9 72 Tryd.underlying69 hi hz0 hz1 hz2 rfl (by decide) (.slice A3 (allTo xs (k * 4 + j)).length c3) (allTo xs (k * 4 + j)).length (flatN (allTo xs (k * 4 + j))) rfl HO1.out A1 (ofN xs (k : Int) (j : Int)).length cap1 (flatN (ofN xs (k : Int) (j : Int))) rfl HN1.out (flatN_len _) HV1.out.1.full (flatN_one _) ?c3 ?c4 ?c5 ?_)
          case c3 => have := HLE.out; unfold maxLen; omega
          case c4 => have := HLE.out; omega
          case c5 => exact HB1.out.size
          intro A4 c4 w8 h4 ho hg hf4
          have HB2 := Lib.hid (below_grown HB1.out HO1.out (Nat.le_refl _) hg)
          have HO2 : Hid (w8.ownsRow w.heap.size 74 9 (.slice A4 ((allTo xs (k * 4 + j)).length + (ofN xs (k : Int) (j : Int)).length) c4) (allTo xs (k * 4 + (j + 1))).length (flatN (allTo xs (k * 4 + (j + 1))))) := Lib.hid (by
            rw [HNX.out, List.length_append, flatN_app]
            exact ho)
          clear ho hg hf4 h4
          go_wp2_with fail
          go_roundg (4 - (j + 1))
          case measure => have := HJ.out; omega
          case rel => exact ⟨j + 1, by have := HJ.out; omega, by go_num, HB2, HO2⟩
        · have ej : decide ((j : Int) < 4) = false := by simp; omega
          have ej2 : decide (j < 4) = false := by simpa using hj4
          obtain rfl : j = 4 := by omega
          have HO2 : Hid (wr.ownsRow w.heap.size 74 9 u3 (allTo xs ((k + 1) * 4)).length (flatN (allTo xs ((k + 1) * 4)))) := Lib.hid (by rw [show (k + 1) * 4 = k * 4 + 4 by omega]; exact HO.out)
          clear hj HO
          go_wp2_with fail
          go_roundg (n - (k + 1))
          case measure => have := HKK.out; omega
          case rel => exact ⟨k + 1, by have := HKK.out; omega, by go_num, HB, HO2⟩
    · have ek : decide ((k : Int) < (n : Int)) = false := by simp; omega
      have ek2 : decide (k < n) = false := by simpa using hkl
      have HO3 : Hid (wr.ownsRow w.heap.size 74 9 u3 (allTo xs (n * 4)).length (flatN (allTo xs (n * 4)))) := Lib.hid (by rw [show n = k by omega]; exact HO.out)
      clear hk hkl HO
      go_wp2_with fail
      go_ret
      exact ⟨_, rfl, HO3.out, HB.out⟩
end

end Go.Proofs.YtkfnjpmigifomaaDoor
namespace Go.Proofs.YtkfnjpmigifomaaDoor
open Go.RowKit

section
variable {w : World} {p : Nat} {cores gran depth : Int} {A : Option Addr} {cap : Nat} {xs : List Nt}
theorem Rf.copied {W : World} (q : Nat) (h : W.heap[q]? = some (.cells #[.int .i64 cores, .int .i64 gran, .int .i64 depth, .slice none 0 0] 142 (0, 0))) : W.cell? ⟨q, 0, none⟩ = some (.int .i64 cores) ∧ W.cell? ⟨q, 1, none⟩ = some (.int .i64 gran) ∧ W.cell? ⟨q, 2, none⟩ = some (.int .i64 depth) ∧ W.cell? ⟨q, 3, none⟩ = some (.slice none 0 0) ∧ (∀ i, W.frozen? ⟨q, i, none⟩ = false) ∧ q < W.heap.size := by
  refine ⟨?_, ?_, ?_, ?_, fun i => ?_, lt_of h⟩ <;> simp [World.cell?, World.frozen?, h]
set_option maxRecDepth 100000 in
set_option maxHeartbeats 4000000 in
theorem rcopy_any (h : Rf w p cores gran depth A cap xs) (hx : xs.length ≤ 1000) :
    Calls Tryd.prog 40 #[.pointer (some ⟨p, 0, none⟩)] w fun e w' => ∃ q, e = .returned (.pointer (some ⟨q, 0, none⟩)) ∧ w.heap.size ≤ q ∧ Below w.heap.size w w' ∧ ∃ A' cap', Rf w' q cores gran depth A' cap' xs ∧ ∀ a, A' = some a → w.heap.size ≤ a.block ∧ a.block < w'.heap.size := by
  obtain ⟨c0, c1, c2, c3, pl⟩ := h.cells
  have H := Lib.hid h
  have HX := Lib.hid hx
  obtain ⟨i0, hi, hz0, hz1, hz2⟩ := info_parts info_note
  clear h hx
  go_enter Tryd.func40, Tryd.ntmps40
  go_wp2_with fail
  go_region
  go_wp2_with fail
  obtain ⟨q, hq⟩ : ∃ q, q = w.heap.size := ⟨_, rfl⟩
  obtain ⟨W1, hW1⟩ : ∃ W, W = (w.alloc (.cells #[.int .i64 cores, .int .i64 gran, .int .i64 depth, .slice none 0 0] 142)).drew := ⟨_, rfl⟩
  have hb1 : Below w.heap.size w W1 := by rw [hW1]; exact ext_drew (ext_alloc _ (Below.refl _ _))
  have hx1 : W1.heap[q]? = some (.cells #[.int .i64 cores, .int .i64 gran, .int .i64 depth, .slice none 0 0] 142 (0, 0)) := by rw [hW1, hq]; exact alNew rfl
  have HB1 := Lib.hid (And.intro hb1 (And.intro hx1 hq))
  rw [← hW1, ← hq]
  clear c0 c1 c2 c3 pl hW1 hq hb1 hx1
  obtain ⟨c0, c1, c2, c3, pl⟩ := (H.out.ext HB1.out.1).cells
  obtain ⟨d0, d1, d2, d3, df, dl⟩ := Rf.copied q HB1.out.2.1
  have HSL : Hid (SlN W1.drew A xs) := Lib.hid ((H.out.ext (ext_drew HB1.out.1)).sl)
  have HN : Hid (A = none → xs.length = 0 ∧ cap = 0) := Lib.hid (fun e => by
    refine ⟨?_, H.out.nz e⟩
    by_cases h0 : 0 < xs.length
    · obtain ⟨b, off, h, _⟩ := H.out.sl h0
      rw [e] at h
      cases h
    · omega)
  have hx1 := HX.out
  go_region_law (refine step_append_full _ rfl (.tmp 18) (.tmp 22) 69 rfl W1.heap.size 74 i0 Nt.zero.val 9 72 Tryd.underlying69 hi hz0 hz1 hz2 rfl (by decide) (.slice none 0 0) 0 [] (by simp [Act.eval]) (World.ownsRow_nil _ _ _ _) A xs.length cap (flatN xs) (by simp [Act.eval]) HN.out (flatN_len xs) HSL.out.full (flatN_one _) (by unfold maxLen; omega) (by omega) (Nat.le_refl _) ?_; intro A3 c3 w2 h3 ho hg hf3; have hk := hg.block q dl (fun e => by cases e); have d3' := (World.cell?_of_block (a := ⟨q, 3, none⟩) hk).trans d3; have df' := (World.frozen?_of_block (a := ⟨q, 3, none⟩) hk).trans (df 3); have HG2 := Lib.hid (And.intro ho (And.intro hg hk)); clear ho hg hf3 h3 hk)
  all_goals
    go_wp2_with fail
    go_ret
    obtain ⟨ho, hg, hk⟩ := HG2.out
    have ho' : w2.ownsRow W1.heap.size 74 9 (.slice A3 xs.length c3) xs.length (flatN xs) := by simpa using ho
    obtain ⟨A4, c4, e4, hs4, _, hn4, hg4⟩ := rowN_val ho'
    obtain ⟨rfl, rfl⟩ : A3 = A4 ∧ c3 = c4 := by
      injection e4 with e5 e6 e7
      exact ⟨e5, e7⟩
    have hx2 : w2.heap[q]? = some (.cells #[.int .i64 cores, .int .i64 gran, .int .i64 depth, .slice none 0 0] 142 (0, 0)) := hk.trans HB1.out.2.1
    have hb2 : Below w.heap.size w w2 := (ext_drew HB1.out.1).grown hg (ext_drew HB1.out.1).size (fun k e => by cases e)
    have hne : ∀ a, A3 = some a → a.block ≠ q := fun a e => by
      obtain ⟨g, rfl⟩ := hg4 a e
      subst e
      have := (ho'.lt g rfl).1
      show g ≠ q
      omega
    have hqe := HB1.out.2.2
    refine ⟨q, rfl, Nat.le_of_eq hqe.symm, hb2.setCell (p := ⟨q, 3, none⟩) (Nat.le_of_eq hqe.symm) _, A3, c3, ⟨?_, ?_, hne, hn4⟩, fun a e => ?_⟩
    · rw [Joins.block_setCell (i := 3) hx2 (.slice A3 xs.length c3)]
      simp
    · exact hs4.of_block (by simp) (fun a e => Below.heap_setCell _ _ _ _ (by simpa using hne a e))
    · obtain ⟨g, rfl⟩ := hg4 a e
      subst e
      have h9 := ho'.lt g rfl
      have h8 := HB1.out.1.size
      exact ⟨by show w.heap.size ≤ g; omega, by simpa using h9.2⟩
end

end Go.Proofs.YtkfnjpmigifomaaDoor
namespace Go.Proofs.YtkfnjpmigifomaaDoor
open Go.RowKit

section
variable {w : World} {p : Nat} {cores gran depth : Int} {A : Option Addr} {cap : Nat} {xs : List Nt}
set_option maxRecDepth 100000 in
set_option maxHeartbeats 4000000 in
theorem r5take_rng (h : Rf w p cores gran depth A cap xs) (co la which : Int) (hr : co < 0 ∨ cores ≤ co ∨ la < 0 ∨ 3 < la) :
    Calls Tryd.prog 81 #[.pointer (some ⟨p, 0, none⟩), .int .i64 co, .int .i64 la, .int .i64 which] w fun e w' => e = .returned (.tuple #[Nt.zero.val, .int .i64 10]) ∧ Below w.heap.size w w' := by
  obtain ⟨c0, c1, c2, c3, pl⟩ := h.cells
  clear h
  by_cases h1 : co < 0
  · have e1 : decide (co < 0) = true := by simpa using h1
    clear hr h1
    go_enter Tryd.func81, Tryd.ntmps81
    go_wp2_with fail
    (try simp only [Exit.inBlock, Exit.then]); refine bodyPost_ret (by simp [results, Tryd.results81, go_sem]; try rfl) rfl ?_
    exact ⟨rfl, (by repeat (with_reducible first | exact Below.refl _ _ | assumption | (refine ext_next (by assumption) ?_) | apply ext_alloc | apply ext_past | apply ext_drew | apply ext_drewN))⟩
  have e1 : decide (co < 0) = false := by simpa using h1
  by_cases h2 : cores ≤ co
  · have e2 : decide (co ≥ cores) = true := by simpa using h2
    have e3 : decide (cores ≤ co) = true := by simpa using h2
    clear hr h1 h2
    go_enter Tryd.func81, Tryd.ntmps81
    go_wp2_with fail
    (try simp only [Exit.inBlock, Exit.then]); refine bodyPost_ret (by simp [results, Tryd.results81, go_sem]; try rfl) rfl ?_
    exact ⟨rfl, (by repeat (with_reducible first | exact Below.refl _ _ | assumption | (refine ext_next (by assumption) ?_) | apply ext_alloc | apply ext_past | apply ext_drew | apply ext_drewN))⟩
  have e2 : decide (co ≥ cores) = false := by simpa using h2
  have e3 : decide (cores ≤ co) = false := by simpa using h2
  by_cases h3 : la < 0
  · have e4 : decide (la < 0) = true := by simpa using h3
    clear hr h1 h2 h3
    go_enter Tryd.func81, Tryd.ntmps81
    go_wp2_with fail
    (try simp only [Exit.inBlock, Exit.then]); refine bodyPost_ret (by simp [results, Tryd.results81, go_sem]; try rfl) rfl ?_
    exact ⟨rfl, (by repeat (with_reducible first | exact Below.refl _ _ | assumption | (refine ext_next (by assumption) ?_) | apply ext_alloc | apply ext_past | apply ext_drew | apply ext_drewN))⟩
  have e4 : decide (la < 0) = false := by simpa using h3
  have e5 : decide (la > 3) = true := by simp; omega
  have e6 : decide (3 < la) = true := by simp; omega
  clear hr h1 h2 h3
  go_enter Tryd.func81, Tryd.ntmps81
  go_wp2_with fail
  (try simp only [Exit.inBlock, Exit.then]); refine bodyPost_ret (by simp [results, Tryd.results81, go_sem]; try rfl) rfl ?_
  exact ⟨rfl, (by repeat (with_reducible first | exact Below.refl _ _ | assumption | (refine ext_next (by assumption) ?_) | apply ext_alloc | apply ext_past | apply ext_drew | apply ext_drewN))⟩
set_option maxRecDepth 100000 in
set_option maxHeartbeats 4000000 in
theorem r5take_none (h : Rf w p cores gran depth A cap xs) (hx : xs.length ≤ 1000) (co la which : Int) (hr : 0 ≤ co ∧ co < cores ∧ 0 ≤ la ∧ la ≤ 3) (h0 : ofN xs co la = []) :
    Calls Tryd.prog 81 #[.pointer (some ⟨p, 0, none⟩), .int .i64 co, .int .i64 la, .int .i64 which] w fun e w' => e = .returned (.tuple #[Nt.zero.val, .int .i64 12]) ∧ Below w.heap.size w w' := by
  obtain ⟨c0, c1, c2, c3, pl⟩ := h.cells
  have HOF := Lib.hid (fun (W : World) (hb : Below w.heap.size w W) => rof_any (h.ext hb) hx co la)
  rw [h0] at HOF
  have e1 : decide (co < 0) = false := by simp; omega
  have e2 : decide (co ≥ cores) = false := by simp; omega
  have e3 : decide (cores ≤ co) = false := by simp; omega
  have e4 : decide (la < 0) = false := by simp; omega
  have e5 : decide (la > 3) = false := by simp; omega
  have e6 : decide (3 < la) = false := by simp; omega
  clear h hx hr h0
  go_enter Tryd.func81, Tryd.ntmps81
  go_wp2_with fail
  have hbz := heap_alloc_new w (.cells #[.int .i64 0, .int .i64 0, .int .i64 0, .int .i64 0, .int .i64 0, .int .i64 0, .int .i64 0, .bool false, .int .i64 0] 74)
  refine (HOF.out _ (by repeat (with_reducible first | exact Below.refl _ _ | assumption | (refine ext_next (by assumption) ?_) | apply ext_alloc | apply ext_past | apply ext_drew | apply ext_drewN))).mono ?_
  rintro e w1 ⟨v, rfl, hv, hb⟩
  obtain ⟨A1, cap1, rfl, _, _, _, _⟩ := rowN_val hv
  have hx1 := (hb.block w.heap.size (by simp)).trans hbz
  have HB : Hid (Below w.heap.size w w1) := Lib.hid (ext_next hb (by repeat (with_reducible first | exact Below.refl _ _ | assumption | (refine ext_next (by assumption) ?_) | apply ext_alloc | apply ext_past | apply ext_drew | apply ext_drewN)))
  have hbx : BxN w1 w.heap.size Nt.zero := by simpa [BxN, Nt.zero] using hx1
  obtain ⟨t0, t1, t2, t3, t4, t5, t6, t7, t8⟩ := hbx.cell
  have tf := hbx.free
  have HBX := Lib.hid hbx
  clear hv hb hx1 hbx hbz
  go_wp2_with fail
  have hb9 := setN_box HBX.out Nt.zero
  have hbl : Below w.heap.size w (setN w1 w.heap.size Nt.zero) := setN_below HB.out (Nat.le_refl _)
  change bodyPost _ _ _ _ _ (setN w1 w.heap.size Nt.zero)
  obtain ⟨W, hW⟩ : ∃ W, W = setN w1 w.heap.size Nt.zero := ⟨_, rfl⟩
  rw [← hW] at hb9 hbl ⊢
  clear t0 t1 t2 t3 t4 t5 t6 t7 t8 tf hW
  obtain ⟨t0, t1, t2, t3, t4, t5, t6, t7, t8⟩ := hb9.cell
  unfold Nt.zero at t0 t1 t2 t3 t4 t5 t6 t7 t8
  dsimp only at t0 t1 t2 t3 t4 t5 t6 t7 t8
  refine bodyPost_ret (v := .tuple #[Nt.zero.val, .int .i64 12]) (by simp [results, Tryd.results81, go_sem, t0, t1, t2, t3, t4, t5, t6, t7, t8]; try rfl) rfl ?_
  exact ⟨rfl, hbl⟩
end

end Go.Proofs.YtkfnjpmigifomaaDoor
