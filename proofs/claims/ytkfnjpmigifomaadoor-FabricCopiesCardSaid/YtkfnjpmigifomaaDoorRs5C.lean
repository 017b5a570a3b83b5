/- What this text holds: the document's check of a note, walked. No condition. -/
import Derived.Test.YtkfnjpmigifomaaDoorRsA
namespace Go.Proofs.YtkfnjpmigifomaaDoor
open Go.RowKit

theorem fldR_mem (k : Int) : ∀ f ∈ fldR k, f ∈ ([99, 108, 119, 116, 115, 103, 111, 112, 110, 98, 100, 120] : List UInt8) := by
  by_cases h : kindB k = true
  · rcases kind_cases h with rfl | rfl | rfl | rfl | rfl | rfl | rfl | rfl | rfl | rfl | rfl | rfl | rfl <;> decide
  · rw [fldR_nil.2 (by simpa using h)]
    intro f hf
    cases hf
theorem all_take3 {l : List UInt8} (p : UInt8 → Bool) {j : Nat} (h : j < l.length) : (l.take (j + 1)).all p = ((l.take j).all p && p l[j]) := by
  rw [List.take_succ_eq_append_getElem h, List.all_append]
  simp
theorem all_bad3 {l : List UInt8} {p : UInt8 → Bool} {j : Nat} (h : j < l.length) (hp : p l[j] = false) : l.all p = false := by
  rw [List.all_eq_false]
  exact ⟨l[j], List.getElem_mem h, by rw [hp]; exact Bool.false_ne_true⟩
set_option maxRecDepth 100000 in
set_option maxHeartbeats 16000000 in
theorem rcheck3_any (co gr : Int) (hc : 0 ≤ co ∧ co ≤ 100) (hg : 0 ≤ gr ∧ gr ≤ 100) (x : Nt) (w : World) :
    Calls Tryd.prog 100 #[.agg #[.int .i64 co, .int .i64 gr], x.val] w fun e w' => e = .returned (.int .i64 (chk3 co gr x)) ∧ Below w.heap.size w w' := by
  obtain ⟨f, hf⟩ : ∃ f, f = fldR x.k := ⟨_, rfl⟩
  have HFM := Lib.hid (fldR_mem x.k)
  have HFI := Lib.hid (fun (W : World) => rfields_any x.k W)
  have HRT := Lib.hid (fun (W : World) (u : UInt8) (hu : u ∈ f) => rright_any co gr hc hg x u (HFM.out u (hf ▸ hu)) W)
  have HCK : Hid (chk3 co gr x = if f = [] then 15 else if f.all (rightP co gr x) && !(bad1 x || bad2 x) then 0 else 10) := Lib.hid (by unfold chk3; rw [hf])
  have HKB := Lib.hid (fun (h : f ≠ []) => show kindB x.k = true by
    by_cases h2 : kindB x.k = true
    · exact h2
    · exact absurd (by rw [hf]; exact fldR_nil.2 (by simpa using h2)) h)
  have H1 := Lib.hid (fun (W : World) => rhas_any x.k [108] (by simp) W)
  have H2 := Lib.hid (fun (W : World) => rhas_any x.k [119, 116] (by simp) W)
  have H3 := Lib.hid (fun (W : World) => rhas_any x.k [115, 103, 111] (by simp) W)
  have H4 := Lib.hid (fun (W : World) => rhas_any x.k [100] (by simp) W)
  have H5 := Lib.hid (fun (W : World) => rhas_any x.k [120] (by simp) W)
  have H6 := Lib.hid (fun (W : World) => rhas_any x.k [112, 110, 98] (by simp) W)
  have hfl : f.length ≤ 7 := by rw [hf]; exact fldR_len _
  rw [← hf] at HFI
  obtain ⟨s, hs⟩ : ∃ s : ByteArray, s = ⟨f.toArray⟩ := ⟨_, rfl⟩
  have hss : s.size = f.length := by rw [hs, str_size]
  have hsl : s.toList = f := by rw [hs, ByteArray.toList_mk]
  have HSI := Lib.hid (fun (i : Nat) (h : i < f.length) => str_at f i h)
  rw [← hs] at HSI
  unfold mkS at *
  rw [← hs] at HFI
  clear hs hf hc hg HFM
  obtain ⟨xk, xc, xl, xw, xs, xa, xb, xd, xn⟩ := x
  unfold Nt.val at *
  dsimp only at *
  go_enter Tryd.func100, Tryd.ntmps100
  go_wp2_with fail
  obtain ⟨w1, hw1⟩ : ∃ w1, w1 = (w.alloc (.cells #[.int .i64 co, .int .i64 gr] 140)).alloc (.cells #[.int .i64 xk, .int .i64 xc, .int .i64 xl, .int .i64 xw, .int .i64 xs, .int .i64 xa, .int .i64 xb, .bool xd, .int .i64 xn] 74) := ⟨_, rfl⟩
  rw [← hw1]
  have HX : Hid (BxN w1 (w.heap.size + 1) ⟨xk, xc, xl, xw, xs, xa, xb, xd, xn⟩) := Lib.hid (by rw [hw1]; exact alNew (by simp))
  have HS : Hid (w1.heap[w.heap.size]? = some (.cells #[.int .i64 co, .int .i64 gr] 140 (0, 0))) := Lib.hid (by rw [hw1]; exact alOld (alNew rfl))
  have HB : Hid (Below w.heap.size w w1) := Lib.hid (by rw [hw1]; repeat (with_reducible first | exact Below.refl _ _ | assumption | (refine ext_next (by assumption) ?_) | apply ext_alloc | apply ext_past | apply ext_drew | apply ext_drewN))
  clear hw1
  refine (HFI.out _).mono ?_
  rintro e w2 ⟨rfl, hb⟩
  have HX := Lib.hid ((hb.block _ HX.out.lt).trans HX.out)
  have HS := Lib.hid ((hb.block _ (lt_of HS.out)).trans HS.out)
  have HB := Lib.hid (ext_trans HB.out hb)
  clear hb HFI
  by_cases hfe : f = []
  · subst hfe
    have HC : Hid (chk3 co gr ⟨xk, xc, xl, xw, xs, xa, xb, xd, xn⟩ = 15) := Lib.hid (by rw [HCK.out]; rfl)
    clear HSI hss
    go_wp2_with fail
    go_ret
    exact ⟨ret_int (by rw [HC.out]), HB.out⟩
  have hne : f.isEmpty = false := by simpa using hfe
  have HC : Hid (chk3 co gr ⟨xk, xc, xl, xw, xs, xa, xb, xd, xn⟩ = if f.all (rightP co gr ⟨xk, xc, xl, xw, xs, xa, xb, xd, xn⟩) && !(bad1 ⟨xk, xc, xl, xw, xs, xa, xb, xd, xn⟩ || bad2 ⟨xk, xc, xl, xw, xs, xa, xb, xd, xn⟩) then 0 else 10) := Lib.hid (by rw [HCK.out, if_neg hfe])
  have HVC := Lib.hid (has_cases (HKB.out hfe))
  clear hfe HCK HKB
  go_wp2_with fail
  go_loopg [6] f.length (fun g s6 wr => ∃ i : Nat, s6 = .int .i64 i ∧ i + g = f.length ∧ Hid (Below w.heap.size w wr) ∧ Hid (BxN wr (w.heap.size + 1) ⟨xk, xc, xl, xw, xs, xa, xb, xd, xn⟩) ∧ Hid (wr.heap[w.heap.size]? = some (.cells #[.int .i64 co, .int .i64 gr] 140 (0, 0))) ∧ Hid ((f.take i).all (rightP co gr ⟨xk, xc, xl, xw, xs, xa, xb, xd, xn⟩) = true))
  case atStart => exact ⟨0, rfl, by omega, HB, HX, HS, Lib.hid rfl⟩
  case round =>
    clear HB HX HS
    obtain ⟨i, rfl, hi, HB, HX, HS, HT⟩ := hrel
    obtain ⟨z0, z1, z2, z3, z4, z5, z6, z7, z8⟩ := HX.out.cell
    have zl := HX.out.lt
    dsimp only at z0 z1 z2 z3 z4 z5 z6 z7 z8
    by_cases hlt : i < f.length
    · have ek : decide ((i : Int) < (f.length : Int)) = true := by simp; omega
      have ek2 : decide (i < f.length) = true := by simpa using hlt
      have HI := Lib.hid (And.intro hi hlt)
      have hsi := HSI.out i hlt
      have hif : (i : Int) < (f.length : Int) := by omega
      have s0 : wr.cell? ⟨w.heap.size, 0, none⟩ = some (.int .i64 co) := by simp [World.cell?, HS.out]
      have s1 : wr.cell? ⟨w.heap.size, 1, none⟩ = some (.int .i64 gr) := by simp [World.cell?, HS.out]
      have sl := lt_of HS.out
      have hrt := fun (W : World) => HRT.out W f[i] (List.getElem_mem hlt)
      obtain ⟨a, ha⟩ : ∃ a : Int, a = ((f[i]).toNat : Int) := ⟨_, rfl⟩
      obtain ⟨ok, hok⟩ : ∃ ok : Bool, ok = rightP co gr ⟨xk, xc, xl, xw, xs, xa, xb, xd, xn⟩ f[i] := ⟨_, rfl⟩
      rw [← ha] at hsi
      rw [← ha, ← hok] at hrt
      have HR := Lib.hid hrt
      have HOK := Lib.hid hok
      have HAT := Lib.hid (all_take3 (rightP co gr ⟨xk, xc, xl, xw, xs, xa, xb, xd, xn⟩) hlt)
      have HAB := Lib.hid (fun h => all_bad3 (p := rightP co gr ⟨xk, xc, xl, xw, xs, xa, xb, xd, xn⟩) hlt h)
      clear hi ha hok hrt
      cases ok
      case false =>
        go_wp2_with fail
        refine region_past (by kernel_rfl) (by kernel_rfl) ?_; (repeat (go_big_quiet_step ((go_at_call 106; exact calls_past (HR.out _))))); refine wpQuiet_nil ?_; rintro _ ⟨p, rfl⟩
        go_wp2_with fail
        have HB6 := Lib.hid (ext_past p (ext_trans HB.out (Below.refl _ _)))
        go_ret
        exact ⟨ret_int (by rw [HC.out, HAB.out HOK.out.symm]; rfl), HB6.out⟩
      case true =>
        go_wp2_with fail
        refine region_past (by kernel_rfl) (by kernel_rfl) ?_; (repeat (go_big_quiet_step ((go_at_call 106; exact calls_past (HR.out _))))); refine wpQuiet_nil ?_; rintro _ ⟨p, rfl⟩
        go_wp2_with fail
        have hpb := p.below
        have HB6 := Lib.hid (ext_past p (ext_trans HB.out (Below.refl _ _)))
        have HX6 := Lib.hid ((hpb.block _ HX.out.lt).trans HX.out)
        have HS6 := Lib.hid ((hpb.block _ (lt_of HS.out)).trans HS.out)
        go_roundg (f.length - (i + 1))
        case measure => have := HI.out; omega
        case rel => exact ⟨i + 1, by go_num, by have := HI.out; omega, HB6, HX6, HS6, Lib.hid (by rw [HAT.out, HT.out, ← HOK.out]; rfl)⟩
    · have ek : decide ((i : Int) < (f.length : Int)) = false := by simp; omega
      have ek2 : decide (i < f.length) = false := by simpa using hlt
      have hall : f.all (rightP co gr ⟨xk, xc, xl, xw, xs, xa, xb, xd, xn⟩) = true := by have := HT.out; rwa [List.take_of_length_le (by omega)] at this
      rw [hall, Bool.true_and] at HC
      clear hall hi hlt HRT HSI
      rcases HVC.out with ⟨hv1, hv2, hv3, hv4, hv5, hv6⟩ | ⟨hv1, hv2, hv3, hv4, hv5, hv6⟩ | ⟨hv1, hv2, hv3, hv4, hv5, hv6⟩ | ⟨hv1, hv2, hv3, hv4, hv5, hv6⟩ | ⟨hv1, hv2, hv3, hv4, hv5, hv6⟩ | ⟨hv1, hv2, hv3, hv4, hv5, hv6⟩ | ⟨hv1, hv2, hv3, hv4, hv5, hv6⟩ | ⟨hv1, hv2, hv3, hv4, hv5, hv6⟩ | ⟨hv1, hv2, hv3, hv4, hv5, hv6⟩
      · rw [hv1] at H1
        rw [hv2] at H2
        rw [hv3] at H3
        rw [hv4] at H4
        rw [hv5] at H5
        rw [hv6] at H6
        have HV := Lib.hid (And.intro hv1 (And.intro hv2 (And.intro hv3 (And.intro hv4 (And.intro hv5 hv6)))))
        go_wp2_with fail
        refine (H1.out _).mono ?_
        rintro e w11 ⟨rfl, hb⟩
        have hz := (hb.block _ HX.out.lt).trans HX.out
        have HX := Lib.hid (show BxN _ (w.heap.size + 1) _ from hz)
        have HB := Lib.hid (ext_trans HB.out hb)
        clear hb hz z0 z1 z2 z3 z4 z5 z6 z7 z8 zl
        obtain ⟨z0, z1, z2, z3, z4, z5, z6, z7, z8⟩ := HX.out.cell
        have zl := HX.out.lt
        dsimp only at z0 z1 z2 z3 z4 z5 z6 z7 z8
        go_wp2_with fail
        refine (H2.out _).mono ?_
        rintro e w12 ⟨rfl, hb⟩
        have hz := (hb.block _ HX.out.lt).trans HX.out
        have HX := Lib.hid (show BxN _ (w.heap.size + 1) _ from hz)
        have HB := Lib.hid (ext_trans HB.out hb)
        clear hb hz z0 z1 z2 z3 z4 z5 z6 z7 z8 zl
        obtain ⟨z0, z1, z2, z3, z4, z5, z6, z7, z8⟩ := HX.out.cell
        have zl := HX.out.lt
        dsimp only at z0 z1 z2 z3 z4 z5 z6 z7 z8
        go_wp2_with fail
        refine (H3.out _).mono ?_
        rintro e w13 ⟨rfl, hb⟩
        have hz := (hb.block _ HX.out.lt).trans HX.out
        have HX := Lib.hid (show BxN _ (w.heap.size + 1) _ from hz)
        have HB := Lib.hid (ext_trans HB.out hb)
        clear hb hz z0 z1 z2 z3 z4 z5 z6 z7 z8 zl
        obtain ⟨z0, z1, z2, z3, z4, z5, z6, z7, z8⟩ := HX.out.cell
        have zl := HX.out.lt
        dsimp only at z0 z1 z2 z3 z4 z5 z6 z7 z8
        by_cases c2 : xs = 0
        · subst c2
          go_wp2_with fail
          refine (H4.out _).mono ?_
          rintro e w14 ⟨rfl, hb⟩
          have hz := (hb.block _ HX.out.lt).trans HX.out
          have HX := Lib.hid (show BxN _ (w.heap.size + 1) _ from hz)
          have HB := Lib.hid (ext_trans HB.out hb)
          clear hb hz z0 z1 z2 z3 z4 z5 z6 z7 z8 zl
          obtain ⟨z0, z1, z2, z3, z4, z5, z6, z7, z8⟩ := HX.out.cell
          have zl := HX.out.lt
          dsimp only at z0 z1 z2 z3 z4 z5 z6 z7 z8
          by_cases c3 : xa = 0
          · subst c3
            by_cases c4 : xb = 0
            · subst c4
              go_wp2_with fail
              refine (H5.out _).mono ?_
              rintro e w15 ⟨rfl, hb⟩
              have hz := (hb.block _ HX.out.lt).trans HX.out
              have HX := Lib.hid (show BxN _ (w.heap.size + 1) _ from hz)
              have HB := Lib.hid (ext_trans HB.out hb)
              clear hb hz z0 z1 z2 z3 z4 z5 z6 z7 z8 zl
              obtain ⟨z0, z1, z2, z3, z4, z5, z6, z7, z8⟩ := HX.out.cell
              have zl := HX.out.lt
              dsimp only at z0 z1 z2 z3 z4 z5 z6 z7 z8
              cases xd
              case false =>
                go_wp2_with fail
                refine (H6.out _).mono ?_
                rintro e w16 ⟨rfl, hb⟩
                have hz := (hb.block _ HX.out.lt).trans HX.out
                have HX := Lib.hid (show BxN _ (w.heap.size + 1) _ from hz)
                have HB := Lib.hid (ext_trans HB.out hb)
                clear hb hz z0 z1 z2 z3 z4 z5 z6 z7 z8 zl
                obtain ⟨z0, z1, z2, z3, z4, z5, z6, z7, z8⟩ := HX.out.cell
                have zl := HX.out.lt
                dsimp only at z0 z1 z2 z3 z4 z5 z6 z7 z8
                by_cases c5 : xn = 0
                · subst c5
                  go_wp2_with fail
                  go_ret
                  exact ⟨ret_int (by rw [HC.out]; simp [bad1, bad2, hv1, hv2, hv3, hv4, hv5, hv6]), HB.out⟩
                · have q5 : (xn == 0) = false := by simpa using c5
                  have r5 : (xn != 0) = true := by simpa using c5
                  go_wp2_with fail
                  go_ret
                  exact ⟨ret_int (by rw [HC.out]; simp [bad1, bad2, hv1, hv2, hv3, hv4, hv5, hv6, c5]), HB.out⟩
              case true =>
                go_wp2_with fail
                go_ret
                exact ⟨ret_int (by rw [HC.out]; simp [bad1, bad2, hv1, hv2, hv3, hv4, hv5, hv6]), HB.out⟩
            · have q4 : (xb == 0) = false := by simpa using c4
              have r4 : (xb != 0) = true := by simpa using c4
              go_wp2_with fail
              go_ret
              exact ⟨ret_int (by rw [HC.out]; simp [bad1, bad2, hv1, hv2, hv3, hv4, hv5, hv6, c4]), HB.out⟩
          · have q3 : (xa == 0) = false := by simpa using c3
            have r3 : (xa != 0) = true := by simpa using c3
            go_wp2_with fail
            go_ret
            exact ⟨ret_int (by rw [HC.out]; simp [bad1, bad2, hv1, hv2, hv3, hv4, hv5, hv6, c3]), HB.out⟩
        · have q2 : (xs == 0) = false := by simpa using c2
          have r2 : (xs != 0) = true := by simpa using c2
          go_wp2_with fail
          go_ret
          exact ⟨ret_int (by rw [HC.out]; simp [bad1, bad2, hv1, hv2, hv3, hv4, hv5, hv6, c2]), HB.out⟩
      · rw [hv1] at H1
        rw [hv2] at H2
        rw [hv3] at H3
        rw [hv4] at H4
        rw [hv5] at H5
        rw [hv6] at H6
        have HV := Lib.hid (And.intro hv1 (And.intro hv2 (And.intro hv3 (And.intro hv4 (And.intro hv5 hv6)))))
        go_wp2_with fail
        refine (H1.out _).mono ?_
        rintro e w11 ⟨rfl, hb⟩
        have hz := (hb.block _ HX.out.lt).trans HX.out
        have HX := Lib.hid (show BxN _ (w.heap.size + 1) _ from hz)
        have HB := Lib.hid (ext_trans HB.out hb)
        clear hb hz z0 z1 z2 z3 z4 z5 z6 z7 z8 zl
        obtain ⟨z0, z1, z2, z3, z4, z5, z6, z7, z8⟩ := HX.out.cell
        have zl := HX.out.lt
        dsimp only at z0 z1 z2 z3 z4 z5 z6 z7 z8
        go_wp2_with fail
        refine (H2.out _).mono ?_
        rintro e w12 ⟨rfl, hb⟩
        have hz := (hb.block _ HX.out.lt).trans HX.out
        have HX := Lib.hid (show BxN _ (w.heap.size + 1) _ from hz)
        have HB := Lib.hid (ext_trans HB.out hb)
        clear hb hz z0 z1 z2 z3 z4 z5 z6 z7 z8 zl
        obtain ⟨z0, z1, z2, z3, z4, z5, z6, z7, z8⟩ := HX.out.cell
        have zl := HX.out.lt
        dsimp only at z0 z1 z2 z3 z4 z5 z6 z7 z8
        go_wp2_with fail
        refine (H3.out _).mono ?_
        rintro e w13 ⟨rfl, hb⟩
        have hz := (hb.block _ HX.out.lt).trans HX.out
        have HX := Lib.hid (show BxN _ (w.heap.size + 1) _ from hz)
        have HB := Lib.hid (ext_trans HB.out hb)
        clear hb hz z0 z1 z2 z3 z4 z5 z6 z7 z8 zl
        obtain ⟨z0, z1, z2, z3, z4, z5, z6, z7, z8⟩ := HX.out.cell
        have zl := HX.out.lt
        dsimp only at z0 z1 z2 z3 z4 z5 z6 z7 z8
        by_cases c2 : xs = 0
        · subst c2
          go_wp2_with fail
          refine (H4.out _).mono ?_
          rintro e w14 ⟨rfl, hb⟩
          have hz := (hb.block _ HX.out.lt).trans HX.out
          have HX := Lib.hid (show BxN _ (w.heap.size + 1) _ from hz)
          have HB := Lib.hid (ext_trans HB.out hb)
          clear hb hz z0 z1 z2 z3 z4 z5 z6 z7 z8 zl
          obtain ⟨z0, z1, z2, z3, z4, z5, z6, z7, z8⟩ := HX.out.cell
          have zl := HX.out.lt
          dsimp only at z0 z1 z2 z3 z4 z5 z6 z7 z8
          go_wp2_with fail
          refine (H5.out _).mono ?_
          rintro e w15 ⟨rfl, hb⟩
          have hz := (hb.block _ HX.out.lt).trans HX.out
          have HX := Lib.hid (show BxN _ (w.heap.size + 1) _ from hz)
          have HB := Lib.hid (ext_trans HB.out hb)
          clear hb hz z0 z1 z2 z3 z4 z5 z6 z7 z8 zl
          obtain ⟨z0, z1, z2, z3, z4, z5, z6, z7, z8⟩ := HX.out.cell
          have zl := HX.out.lt
          dsimp only at z0 z1 z2 z3 z4 z5 z6 z7 z8
          go_wp2_with fail
          refine (H6.out _).mono ?_
          rintro e w16 ⟨rfl, hb⟩
          have hz := (hb.block _ HX.out.lt).trans HX.out
          have HX := Lib.hid (show BxN _ (w.heap.size + 1) _ from hz)
          have HB := Lib.hid (ext_trans HB.out hb)
          clear hb hz z0 z1 z2 z3 z4 z5 z6 z7 z8 zl
          obtain ⟨z0, z1, z2, z3, z4, z5, z6, z7, z8⟩ := HX.out.cell
          have zl := HX.out.lt
          dsimp only at z0 z1 z2 z3 z4 z5 z6 z7 z8
          by_cases c5 : xn = 0
          · subst c5
            go_wp2_with fail
            go_ret
            exact ⟨ret_int (by rw [HC.out]; simp [bad1, bad2, hv1, hv2, hv3, hv4, hv5, hv6]), HB.out⟩
          · have q5 : (xn == 0) = false := by simpa using c5
            have r5 : (xn != 0) = true := by simpa using c5
            go_wp2_with fail
            go_ret
            exact ⟨ret_int (by rw [HC.out]; simp [bad1, bad2, hv1, hv2, hv3, hv4, hv5, hv6, c5]), HB.out⟩
        · have q2 : (xs == 0) = false := by simpa using c2
          have r2 : (xs != 0) = true := by simpa using c2
          go_wp2_with fail
          go_ret
          exact ⟨ret_int (by rw [HC.out]; simp [bad1, bad2, hv1, hv2, hv3, hv4, hv5, hv6, c2]), HB.out⟩
      · rw [hv1] at H1
        rw [hv2] at H2
        rw [hv3] at H3
        rw [hv4] at H4
        rw [hv5] at H5
        rw [hv6] at H6
        have HV := Lib.hid (And.intro hv1 (And.intro hv2 (And.intro hv3 (And.intro hv4 (And.intro hv5 hv6)))))
        go_wp2_with fail
        refine (H1.out _).mono ?_
        rintro e w11 ⟨rfl, hb⟩
        have hz := (hb.block _ HX.out.lt).trans HX.out
        have HX := Lib.hid (show BxN _ (w.heap.size + 1) _ from hz)
        have HB := Lib.hid (ext_trans HB.out hb)
        clear hb hz z0 z1 z2 z3 z4 z5 z6 z7 z8 zl
        obtain ⟨z0, z1, z2, z3, z4, z5, z6, z7, z8⟩ := HX.out.cell
        have zl := HX.out.lt
        dsimp only at z0 z1 z2 z3 z4 z5 z6 z7 z8
        go_wp2_with fail
        refine (H2.out _).mono ?_
        rintro e w12 ⟨rfl, hb⟩
        have hz := (hb.block _ HX.out.lt).trans HX.out
        have HX := Lib.hid (show BxN _ (w.heap.size + 1) _ from hz)
        have HB := Lib.hid (ext_trans HB.out hb)
        clear hb hz z0 z1 z2 z3 z4 z5 z6 z7 z8 zl
        obtain ⟨z0, z1, z2, z3, z4, z5, z6, z7, z8⟩ := HX.out.cell
        have zl := HX.out.lt
        dsimp only at z0 z1 z2 z3 z4 z5 z6 z7 z8
        by_cases c1 : xw = 0
        · subst c1
          go_wp2_with fail
          refine (H3.out _).mono ?_
          rintro e w13 ⟨rfl, hb⟩
          have hz := (hb.block _ HX.out.lt).trans HX.out
          have HX := Lib.hid (show BxN _ (w.heap.size + 1) _ from hz)
          have HB := Lib.hid (ext_trans HB.out hb)
          clear hb hz z0 z1 z2 z3 z4 z5 z6 z7 z8 zl
          obtain ⟨z0, z1, z2, z3, z4, z5, z6, z7, z8⟩ := HX.out.cell
          have zl := HX.out.lt
          dsimp only at z0 z1 z2 z3 z4 z5 z6 z7 z8
          by_cases c2 : xs = 0
          · subst c2
            go_wp2_with fail
            refine (H4.out _).mono ?_
            rintro e w14 ⟨rfl, hb⟩
            have hz := (hb.block _ HX.out.lt).trans HX.out
            have HX := Lib.hid (show BxN _ (w.heap.size + 1) _ from hz)
            have HB := Lib.hid (ext_trans HB.out hb)
            clear hb hz z0 z1 z2 z3 z4 z5 z6 z7 z8 zl
            obtain ⟨z0, z1, z2, z3, z4, z5, z6, z7, z8⟩ := HX.out.cell
            have zl := HX.out.lt
            dsimp only at z0 z1 z2 z3 z4 z5 z6 z7 z8
            by_cases c3 : xa = 0
            · subst c3
              by_cases c4 : xb = 0
              · subst c4
                go_wp2_with fail
                refine (H5.out _).mono ?_
                rintro e w15 ⟨rfl, hb⟩
                have hz := (hb.block _ HX.out.lt).trans HX.out
                have HX := Lib.hid (show BxN _ (w.heap.size + 1) _ from hz)
                have HB := Lib.hid (ext_trans HB.out hb)
                clear hb hz z0 z1 z2 z3 z4 z5 z6 z7 z8 zl
                obtain ⟨z0, z1, z2, z3, z4, z5, z6, z7, z8⟩ := HX.out.cell
                have zl := HX.out.lt
                dsimp only at z0 z1 z2 z3 z4 z5 z6 z7 z8
                cases xd
                case false =>
                  go_wp2_with fail
                  refine (H6.out _).mono ?_
                  rintro e w16 ⟨rfl, hb⟩
                  have hz := (hb.block _ HX.out.lt).trans HX.out
                  have HX := Lib.hid (show BxN _ (w.heap.size + 1) _ from hz)
                  have HB := Lib.hid (ext_trans HB.out hb)
                  clear hb hz z0 z1 z2 z3 z4 z5 z6 z7 z8 zl
                  obtain ⟨z0, z1, z2, z3, z4, z5, z6, z7, z8⟩ := HX.out.cell
                  have zl := HX.out.lt
                  dsimp only at z0 z1 z2 z3 z4 z5 z6 z7 z8
                  by_cases c5 : xn = 0
                  · subst c5
                    go_wp2_with fail
                    go_ret
                    exact ⟨ret_int (by rw [HC.out]; simp [bad1, bad2, hv1, hv2, hv3, hv4, hv5, hv6]), HB.out⟩
                  · have q5 : (xn == 0) = false := by simpa using c5
                    have r5 : (xn != 0) = true := by simpa using c5
                    go_wp2_with fail
                    go_ret
                    exact ⟨ret_int (by rw [HC.out]; simp [bad1, bad2, hv1, hv2, hv3, hv4, hv5, hv6, c5]), HB.out⟩
                case true =>
                  go_wp2_with fail
                  go_ret
                  exact ⟨ret_int (by rw [HC.out]; simp [bad1, bad2, hv1, hv2, hv3, hv4, hv5, hv6]), HB.out⟩
              · have q4 : (xb == 0) = false := by simpa using c4
                have r4 : (xb != 0) = true := by simpa using c4
                go_wp2_with fail
                go_ret
                exact ⟨ret_int (by rw [HC.out]; simp [bad1, bad2, hv1, hv2, hv3, hv4, hv5, hv6, c4]), HB.out⟩
            · have q3 : (xa == 0) = false := by simpa using c3
              have r3 : (xa != 0) = true := by simpa using c3
              go_wp2_with fail
              go_ret
              exact ⟨ret_int (by rw [HC.out]; simp [bad1, bad2, hv1, hv2, hv3, hv4, hv5, hv6, c3]), HB.out⟩
          · have q2 : (xs == 0) = false := by simpa using c2
            have r2 : (xs != 0) = true := by simpa using c2
            go_wp2_with fail
            go_ret
            exact ⟨ret_int (by rw [HC.out]; simp [bad1, bad2, hv1, hv2, hv3, hv4, hv5, hv6, c2]), HB.out⟩
        · have q1 : (xw == 0) = false := by simpa using c1
          have r1 : (xw != 0) = true := by simpa using c1
          go_wp2_with fail
          go_ret
          exact ⟨ret_int (by rw [HC.out]; simp [bad1, bad2, hv1, hv2, hv3, hv4, hv5, hv6, c1]), HB.out⟩
      · rw [hv1] at H1
        rw [hv2] at H2
        rw [hv3] at H3
        rw [hv4] at H4
        rw [hv5] at H5
        rw [hv6] at H6
        have HV := Lib.hid (And.intro hv1 (And.intro hv2 (And.intro hv3 (And.intro hv4 (And.intro hv5 hv6)))))
        go_wp2_with fail
        refine (H1.out _).mono ?_
        rintro e w11 ⟨rfl, hb⟩
        have hz := (hb.block _ HX.out.lt).trans HX.out
        have HX := Lib.hid (show BxN _ (w.heap.size + 1) _ from hz)
        have HB := Lib.hid (ext_trans HB.out hb)
        clear hb hz z0 z1 z2 z3 z4 z5 z6 z7 z8 zl
        obtain ⟨z0, z1, z2, z3, z4, z5, z6, z7, z8⟩ := HX.out.cell
        have zl := HX.out.lt
        dsimp only at z0 z1 z2 z3 z4 z5 z6 z7 z8
        go_wp2_with fail
        refine (H2.out _).mono ?_
        rintro e w12 ⟨rfl, hb⟩
        have hz := (hb.block _ HX.out.lt).trans HX.out
        have HX := Lib.hid (show BxN _ (w.heap.size + 1) _ from hz)
        have HB := Lib.hid (ext_trans HB.out hb)
        clear hb hz z0 z1 z2 z3 z4 z5 z6 z7 z8 zl
        obtain ⟨z0, z1, z2, z3, z4, z5, z6, z7, z8⟩ := HX.out.cell
        have zl := HX.out.lt
        dsimp only at z0 z1 z2 z3 z4 z5 z6 z7 z8
        by_cases c1 : xw = 0
        · subst c1
          go_wp2_with fail
          refine (H3.out _).mono ?_
          rintro e w13 ⟨rfl, hb⟩
          have hz := (hb.block _ HX.out.lt).trans HX.out
          have HX := Lib.hid (show BxN _ (w.heap.size + 1) _ from hz)
          have HB := Lib.hid (ext_trans HB.out hb)
          clear hb hz z0 z1 z2 z3 z4 z5 z6 z7 z8 zl
          obtain ⟨z0, z1, z2, z3, z4, z5, z6, z7, z8⟩ := HX.out.cell
          have zl := HX.out.lt
          dsimp only at z0 z1 z2 z3 z4 z5 z6 z7 z8
          go_wp2_with fail
          refine (H4.out _).mono ?_
          rintro e w14 ⟨rfl, hb⟩
          have hz := (hb.block _ HX.out.lt).trans HX.out
          have HX := Lib.hid (show BxN _ (w.heap.size + 1) _ from hz)
          have HB := Lib.hid (ext_trans HB.out hb)
          clear hb hz z0 z1 z2 z3 z4 z5 z6 z7 z8 zl
          obtain ⟨z0, z1, z2, z3, z4, z5, z6, z7, z8⟩ := HX.out.cell
          have zl := HX.out.lt
          dsimp only at z0 z1 z2 z3 z4 z5 z6 z7 z8
          go_wp2_with fail
          refine (H5.out _).mono ?_
          rintro e w15 ⟨rfl, hb⟩
          have hz := (hb.block _ HX.out.lt).trans HX.out
          have HX := Lib.hid (show BxN _ (w.heap.size + 1) _ from hz)
          have HB := Lib.hid (ext_trans HB.out hb)
          clear hb hz z0 z1 z2 z3 z4 z5 z6 z7 z8 zl
          obtain ⟨z0, z1, z2, z3, z4, z5, z6, z7, z8⟩ := HX.out.cell
          have zl := HX.out.lt
          dsimp only at z0 z1 z2 z3 z4 z5 z6 z7 z8
          go_wp2_with fail
          refine (H6.out _).mono ?_
          rintro e w16 ⟨rfl, hb⟩
          have hz := (hb.block _ HX.out.lt).trans HX.out
          have HX := Lib.hid (show BxN _ (w.heap.size + 1) _ from hz)
          have HB := Lib.hid (ext_trans HB.out hb)
          clear hb hz z0 z1 z2 z3 z4 z5 z6 z7 z8 zl
          obtain ⟨z0, z1, z2, z3, z4, z5, z6, z7, z8⟩ := HX.out.cell
          have zl := HX.out.lt
          dsimp only at z0 z1 z2 z3 z4 z5 z6 z7 z8
          go_wp2_with fail
          go_ret
          exact ⟨ret_int (by rw [HC.out]; simp [bad1, bad2, hv1, hv2, hv3, hv4, hv5, hv6]), HB.out⟩
        · have q1 : (xw == 0) = false := by simpa using c1
          have r1 : (xw != 0) = true := by simpa using c1
          go_wp2_with fail
          go_ret
          exact ⟨ret_int (by rw [HC.out]; simp [bad1, bad2, hv1, hv2, hv3, hv4, hv5, hv6, c1]), HB.out⟩
      · rw [hv1] at H1
        rw [hv2] at H2
        rw [hv3] at H3
        rw [hv4] at H4
        rw [hv5] at H5
        rw [hv6] at H6
        have HV := Lib.hid (And.intro hv1 (And.intro hv2 (And.intro hv3 (And.intro hv4 (And.intro hv5 hv6)))))
        go_wp2_with fail
        refine (H1.out _).mono ?_
        rintro e w11 ⟨rfl, hb⟩
        have hz := (hb.block _ HX.out.lt).trans HX.out
        have HX := Lib.hid (show BxN _ (w.heap.size + 1) _ from hz)
        have HB := Lib.hid (ext_trans HB.out hb)
        clear hb hz z0 z1 z2 z3 z4 z5 z6 z7 z8 zl
        obtain ⟨z0, z1, z2, z3, z4, z5, z6, z7, z8⟩ := HX.out.cell
        have zl := HX.out.lt
        dsimp only at z0 z1 z2 z3 z4 z5 z6 z7 z8
        by_cases c0 : xl = 0
        · subst c0
          go_wp2_with fail
          refine (H2.out _).mono ?_
          rintro e w12 ⟨rfl, hb⟩
          have hz := (hb.block _ HX.out.lt).trans HX.out
          have HX := Lib.hid (show BxN _ (w.heap.size + 1) _ from hz)
          have HB := Lib.hid (ext_trans HB.out hb)
          clear hb hz z0 z1 z2 z3 z4 z5 z6 z7 z8 zl
          obtain ⟨z0, z1, z2, z3, z4, z5, z6, z7, z8⟩ := HX.out.cell
          have zl := HX.out.lt
          dsimp only at z0 z1 z2 z3 z4 z5 z6 z7 z8
          by_cases c1 : xw = 0
          · subst c1
            go_wp2_with fail
            refine (H3.out _).mono ?_
            rintro e w13 ⟨rfl, hb⟩
            have hz := (hb.block _ HX.out.lt).trans HX.out
            have HX := Lib.hid (show BxN _ (w.heap.size + 1) _ from hz)
            have HB := Lib.hid (ext_trans HB.out hb)
            clear hb hz z0 z1 z2 z3 z4 z5 z6 z7 z8 zl
            obtain ⟨z0, z1, z2, z3, z4, z5, z6, z7, z8⟩ := HX.out.cell
            have zl := HX.out.lt
            dsimp only at z0 z1 z2 z3 z4 z5 z6 z7 z8
            by_cases c2 : xs = 0
            · subst c2
              go_wp2_with fail
              refine (H4.out _).mono ?_
              rintro e w14 ⟨rfl, hb⟩
              have hz := (hb.block _ HX.out.lt).trans HX.out
              have HX := Lib.hid (show BxN _ (w.heap.size + 1) _ from hz)
              have HB := Lib.hid (ext_trans HB.out hb)
              clear hb hz z0 z1 z2 z3 z4 z5 z6 z7 z8 zl
              obtain ⟨z0, z1, z2, z3, z4, z5, z6, z7, z8⟩ := HX.out.cell
              have zl := HX.out.lt
              dsimp only at z0 z1 z2 z3 z4 z5 z6 z7 z8
              by_cases c3 : xa = 0
              · subst c3
                by_cases c4 : xb = 0
                · subst c4
                  go_wp2_with fail
                  refine (H5.out _).mono ?_
                  rintro e w15 ⟨rfl, hb⟩
                  have hz := (hb.block _ HX.out.lt).trans HX.out
                  have HX := Lib.hid (show BxN _ (w.heap.size + 1) _ from hz)
                  have HB := Lib.hid (ext_trans HB.out hb)
                  clear hb hz z0 z1 z2 z3 z4 z5 z6 z7 z8 zl
                  obtain ⟨z0, z1, z2, z3, z4, z5, z6, z7, z8⟩ := HX.out.cell
                  have zl := HX.out.lt
                  dsimp only at z0 z1 z2 z3 z4 z5 z6 z7 z8
                  cases xd
                  case false =>
                    go_wp2_with fail
                    refine (H6.out _).mono ?_
                    rintro e w16 ⟨rfl, hb⟩
                    have hz := (hb.block _ HX.out.lt).trans HX.out
                    have HX := Lib.hid (show BxN _ (w.heap.size + 1) _ from hz)
                    have HB := Lib.hid (ext_trans HB.out hb)
                    clear hb hz z0 z1 z2 z3 z4 z5 z6 z7 z8 zl
                    obtain ⟨z0, z1, z2, z3, z4, z5, z6, z7, z8⟩ := HX.out.cell
                    have zl := HX.out.lt
                    dsimp only at z0 z1 z2 z3 z4 z5 z6 z7 z8
                    go_wp2_with fail
                    go_ret
                    exact ⟨ret_int (by rw [HC.out]; simp [bad1, bad2, hv1, hv2, hv3, hv4, hv5, hv6]), HB.out⟩
                  case true =>
                    go_wp2_with fail
                    go_ret
                    exact ⟨ret_int (by rw [HC.out]; simp [bad1, bad2, hv1, hv2, hv3, hv4, hv5, hv6]), HB.out⟩
                · have q4 : (xb == 0) = false := by simpa using c4
                  have r4 : (xb != 0) = true := by simpa using c4
                  go_wp2_with fail
                  go_ret
                  exact ⟨ret_int (by rw [HC.out]; simp [bad1, bad2, hv1, hv2, hv3, hv4, hv5, hv6, c4]), HB.out⟩
              · have q3 : (xa == 0) = false := by simpa using c3
                have r3 : (xa != 0) = true := by simpa using c3
                go_wp2_with fail
                go_ret
                exact ⟨ret_int (by rw [HC.out]; simp [bad1, bad2, hv1, hv2, hv3, hv4, hv5, hv6, c3]), HB.out⟩
            · have q2 : (xs == 0) = false := by simpa using c2
              have r2 : (xs != 0) = true := by simpa using c2
              go_wp2_with fail
              go_ret
              exact ⟨ret_int (by rw [HC.out]; simp [bad1, bad2, hv1, hv2, hv3, hv4, hv5, hv6, c2]), HB.out⟩
          · have q1 : (xw == 0) = false := by simpa using c1
            have r1 : (xw != 0) = true := by simpa using c1
            go_wp2_with fail
            go_ret
            exact ⟨ret_int (by rw [HC.out]; simp [bad1, bad2, hv1, hv2, hv3, hv4, hv5, hv6, c1]), HB.out⟩
        · have q0 : (xl == 0) = false := by simpa using c0
          have r0 : (xl != 0) = true := by simpa using c0
          go_wp2_with fail
          go_ret
          exact ⟨ret_int (by rw [HC.out]; simp [bad1, bad2, hv1, hv2, hv3, hv4, hv5, hv6, c0]), HB.out⟩
      · rw [hv1] at H1
        rw [hv2] at H2
        rw [hv3] at H3
        rw [hv4] at H4
        rw [hv5] at H5
        rw [hv6] at H6
        have HV := Lib.hid (And.intro hv1 (And.intro hv2 (And.intro hv3 (And.intro hv4 (And.intro hv5 hv6)))))
        go_wp2_with fail
        refine (H1.out _).mono ?_
        rintro e w11 ⟨rfl, hb⟩
        have hz := (hb.block _ HX.out.lt).trans HX.out
        have HX := Lib.hid (show BxN _ (w.heap.size + 1) _ from hz)
        have HB := Lib.hid (ext_trans HB.out hb)
        clear hb hz z0 z1 z2 z3 z4 z5 z6 z7 z8 zl
        obtain ⟨z0, z1, z2, z3, z4, z5, z6, z7, z8⟩ := HX.out.cell
        have zl := HX.out.lt
        dsimp only at z0 z1 z2 z3 z4 z5 z6 z7 z8
        go_wp2_with fail
        refine (H2.out _).mono ?_
        rintro e w12 ⟨rfl, hb⟩
        have hz := (hb.block _ HX.out.lt).trans HX.out
        have HX := Lib.hid (show BxN _ (w.heap.size + 1) _ from hz)
        have HB := Lib.hid (ext_trans HB.out hb)
        clear hb hz z0 z1 z2 z3 z4 z5 z6 z7 z8 zl
        obtain ⟨z0, z1, z2, z3, z4, z5, z6, z7, z8⟩ := HX.out.cell
        have zl := HX.out.lt
        dsimp only at z0 z1 z2 z3 z4 z5 z6 z7 z8
        go_wp2_with fail
        refine (H3.out _).mono ?_
        rintro e w13 ⟨rfl, hb⟩
        have hz := (hb.block _ HX.out.lt).trans HX.out
        have HX := Lib.hid (show BxN _ (w.heap.size + 1) _ from hz)
        have HB := Lib.hid (ext_trans HB.out hb)
        clear hb hz z0 z1 z2 z3 z4 z5 z6 z7 z8 zl
        obtain ⟨z0, z1, z2, z3, z4, z5, z6, z7, z8⟩ := HX.out.cell
        have zl := HX.out.lt
        dsimp only at z0 z1 z2 z3 z4 z5 z6 z7 z8
        go_wp2_with fail
        refine (H4.out _).mono ?_
        rintro e w14 ⟨rfl, hb⟩
        have hz := (hb.block _ HX.out.lt).trans HX.out
        have HX := Lib.hid (show BxN _ (w.heap.size + 1) _ from hz)
        have HB := Lib.hid (ext_trans HB.out hb)
        clear hb hz z0 z1 z2 z3 z4 z5 z6 z7 z8 zl
        obtain ⟨z0, z1, z2, z3, z4, z5, z6, z7, z8⟩ := HX.out.cell
        have zl := HX.out.lt
        dsimp only at z0 z1 z2 z3 z4 z5 z6 z7 z8
        go_wp2_with fail
        refine (H5.out _).mono ?_
        rintro e w15 ⟨rfl, hb⟩
        have hz := (hb.block _ HX.out.lt).trans HX.out
        have HX := Lib.hid (show BxN _ (w.heap.size + 1) _ from hz)
        have HB := Lib.hid (ext_trans HB.out hb)
        clear hb hz z0 z1 z2 z3 z4 z5 z6 z7 z8 zl
        obtain ⟨z0, z1, z2, z3, z4, z5, z6, z7, z8⟩ := HX.out.cell
        have zl := HX.out.lt
        dsimp only at z0 z1 z2 z3 z4 z5 z6 z7 z8
        cases xd
        case false =>
          go_wp2_with fail
          refine (H6.out _).mono ?_
          rintro e w16 ⟨rfl, hb⟩
          have hz := (hb.block _ HX.out.lt).trans HX.out
          have HX := Lib.hid (show BxN _ (w.heap.size + 1) _ from hz)
          have HB := Lib.hid (ext_trans HB.out hb)
          clear hb hz z0 z1 z2 z3 z4 z5 z6 z7 z8 zl
          obtain ⟨z0, z1, z2, z3, z4, z5, z6, z7, z8⟩ := HX.out.cell
          have zl := HX.out.lt
          dsimp only at z0 z1 z2 z3 z4 z5 z6 z7 z8
          by_cases c5 : xn = 0
          · subst c5
            go_wp2_with fail
            go_ret
            exact ⟨ret_int (by rw [HC.out]; simp [bad1, bad2, hv1, hv2, hv3, hv4, hv5, hv6]), HB.out⟩
          · have q5 : (xn == 0) = false := by simpa using c5
            have r5 : (xn != 0) = true := by simpa using c5
            go_wp2_with fail
            go_ret
            exact ⟨ret_int (by rw [HC.out]; simp [bad1, bad2, hv1, hv2, hv3, hv4, hv5, hv6, c5]), HB.out⟩
        case true =>
          go_wp2_with fail
          go_ret
          exact ⟨ret_int (by rw [HC.out]; simp [bad1, bad2, hv1, hv2, hv3, hv4, hv5, hv6]), HB.out⟩
      · rw [hv1] at H1
        rw [hv2] at H2
        rw [hv3] at H3
        rw [hv4] at H4
        rw [hv5] at H5
        rw [hv6] at H6
        have HV := Lib.hid (And.intro hv1 (And.intro hv2 (And.intro hv3 (And.intro hv4 (And.intro hv5 hv6)))))
        go_wp2_with fail
        refine (H1.out _).mono ?_
        rintro e w11 ⟨rfl, hb⟩
        have hz := (hb.block _ HX.out.lt).trans HX.out
        have HX := Lib.hid (show BxN _ (w.heap.size + 1) _ from hz)
        have HB := Lib.hid (ext_trans HB.out hb)
        clear hb hz z0 z1 z2 z3 z4 z5 z6 z7 z8 zl
        obtain ⟨z0, z1, z2, z3, z4, z5, z6, z7, z8⟩ := HX.out.cell
        have zl := HX.out.lt
        dsimp only at z0 z1 z2 z3 z4 z5 z6 z7 z8
        go_wp2_with fail
        refine (H2.out _).mono ?_
        rintro e w12 ⟨rfl, hb⟩
        have hz := (hb.block _ HX.out.lt).trans HX.out
        have HX := Lib.hid (show BxN _ (w.heap.size + 1) _ from hz)
        have HB := Lib.hid (ext_trans HB.out hb)
        clear hb hz z0 z1 z2 z3 z4 z5 z6 z7 z8 zl
        obtain ⟨z0, z1, z2, z3, z4, z5, z6, z7, z8⟩ := HX.out.cell
        have zl := HX.out.lt
        dsimp only at z0 z1 z2 z3 z4 z5 z6 z7 z8
        by_cases c1 : xw = 0
        · subst c1
          go_wp2_with fail
          refine (H3.out _).mono ?_
          rintro e w13 ⟨rfl, hb⟩
          have hz := (hb.block _ HX.out.lt).trans HX.out
          have HX := Lib.hid (show BxN _ (w.heap.size + 1) _ from hz)
          have HB := Lib.hid (ext_trans HB.out hb)
          clear hb hz z0 z1 z2 z3 z4 z5 z6 z7 z8 zl
          obtain ⟨z0, z1, z2, z3, z4, z5, z6, z7, z8⟩ := HX.out.cell
          have zl := HX.out.lt
          dsimp only at z0 z1 z2 z3 z4 z5 z6 z7 z8
          by_cases c2 : xs = 0
          · subst c2
            go_wp2_with fail
            refine (H4.out _).mono ?_
            rintro e w14 ⟨rfl, hb⟩
            have hz := (hb.block _ HX.out.lt).trans HX.out
            have HX := Lib.hid (show BxN _ (w.heap.size + 1) _ from hz)
            have HB := Lib.hid (ext_trans HB.out hb)
            clear hb hz z0 z1 z2 z3 z4 z5 z6 z7 z8 zl
            obtain ⟨z0, z1, z2, z3, z4, z5, z6, z7, z8⟩ := HX.out.cell
            have zl := HX.out.lt
            dsimp only at z0 z1 z2 z3 z4 z5 z6 z7 z8
            by_cases c3 : xa = 0
            · subst c3
              by_cases c4 : xb = 0
              · subst c4
                go_wp2_with fail
                refine (H5.out _).mono ?_
                rintro e w15 ⟨rfl, hb⟩
                have hz := (hb.block _ HX.out.lt).trans HX.out
                have HX := Lib.hid (show BxN _ (w.heap.size + 1) _ from hz)
                have HB := Lib.hid (ext_trans HB.out hb)
                clear hb hz z0 z1 z2 z3 z4 z5 z6 z7 z8 zl
                obtain ⟨z0, z1, z2, z3, z4, z5, z6, z7, z8⟩ := HX.out.cell
                have zl := HX.out.lt
                dsimp only at z0 z1 z2 z3 z4 z5 z6 z7 z8
                cases xd
                case false =>
                  go_wp2_with fail
                  refine (H6.out _).mono ?_
                  rintro e w16 ⟨rfl, hb⟩
                  have hz := (hb.block _ HX.out.lt).trans HX.out
                  have HX := Lib.hid (show BxN _ (w.heap.size + 1) _ from hz)
                  have HB := Lib.hid (ext_trans HB.out hb)
                  clear hb hz z0 z1 z2 z3 z4 z5 z6 z7 z8 zl
                  obtain ⟨z0, z1, z2, z3, z4, z5, z6, z7, z8⟩ := HX.out.cell
                  have zl := HX.out.lt
                  dsimp only at z0 z1 z2 z3 z4 z5 z6 z7 z8
                  go_wp2_with fail
                  go_ret
                  exact ⟨ret_int (by rw [HC.out]; simp [bad1, bad2, hv1, hv2, hv3, hv4, hv5, hv6]), HB.out⟩
                case true =>
                  go_wp2_with fail
                  go_ret
                  exact ⟨ret_int (by rw [HC.out]; simp [bad1, bad2, hv1, hv2, hv3, hv4, hv5, hv6]), HB.out⟩
              · have q4 : (xb == 0) = false := by simpa using c4
                have r4 : (xb != 0) = true := by simpa using c4
                go_wp2_with fail
                go_ret
                exact ⟨ret_int (by rw [HC.out]; simp [bad1, bad2, hv1, hv2, hv3, hv4, hv5, hv6, c4]), HB.out⟩
            · have q3 : (xa == 0) = false := by simpa using c3
              have r3 : (xa != 0) = true := by simpa using c3
              go_wp2_with fail
              go_ret
              exact ⟨ret_int (by rw [HC.out]; simp [bad1, bad2, hv1, hv2, hv3, hv4, hv5, hv6, c3]), HB.out⟩
          · have q2 : (xs == 0) = false := by simpa using c2
            have r2 : (xs != 0) = true := by simpa using c2
            go_wp2_with fail
            go_ret
            exact ⟨ret_int (by rw [HC.out]; simp [bad1, bad2, hv1, hv2, hv3, hv4, hv5, hv6, c2]), HB.out⟩
        · have q1 : (xw == 0) = false := by simpa using c1
          have r1 : (xw != 0) = true := by simpa using c1
          go_wp2_with fail
          go_ret
          exact ⟨ret_int (by rw [HC.out]; simp [bad1, bad2, hv1, hv2, hv3, hv4, hv5, hv6, c1]), HB.out⟩
      · rw [hv1] at H1
        rw [hv2] at H2
        rw [hv3] at H3
        rw [hv4] at H4
        rw [hv5] at H5
        rw [hv6] at H6
        have HV := Lib.hid (And.intro hv1 (And.intro hv2 (And.intro hv3 (And.intro hv4 (And.intro hv5 hv6)))))
        go_wp2_with fail
        refine (H1.out _).mono ?_
        rintro e w11 ⟨rfl, hb⟩
        have hz := (hb.block _ HX.out.lt).trans HX.out
        have HX := Lib.hid (show BxN _ (w.heap.size + 1) _ from hz)
        have HB := Lib.hid (ext_trans HB.out hb)
        clear hb hz z0 z1 z2 z3 z4 z5 z6 z7 z8 zl
        obtain ⟨z0, z1, z2, z3, z4, z5, z6, z7, z8⟩ := HX.out.cell
        have zl := HX.out.lt
        dsimp only at z0 z1 z2 z3 z4 z5 z6 z7 z8
        go_wp2_with fail
        refine (H2.out _).mono ?_
        rintro e w12 ⟨rfl, hb⟩
        have hz := (hb.block _ HX.out.lt).trans HX.out
        have HX := Lib.hid (show BxN _ (w.heap.size + 1) _ from hz)
        have HB := Lib.hid (ext_trans HB.out hb)
        clear hb hz z0 z1 z2 z3 z4 z5 z6 z7 z8 zl
        obtain ⟨z0, z1, z2, z3, z4, z5, z6, z7, z8⟩ := HX.out.cell
        have zl := HX.out.lt
        dsimp only at z0 z1 z2 z3 z4 z5 z6 z7 z8
        by_cases c1 : xw = 0
        · subst c1
          go_wp2_with fail
          refine (H3.out _).mono ?_
          rintro e w13 ⟨rfl, hb⟩
          have hz := (hb.block _ HX.out.lt).trans HX.out
          have HX := Lib.hid (show BxN _ (w.heap.size + 1) _ from hz)
          have HB := Lib.hid (ext_trans HB.out hb)
          clear hb hz z0 z1 z2 z3 z4 z5 z6 z7 z8 zl
          obtain ⟨z0, z1, z2, z3, z4, z5, z6, z7, z8⟩ := HX.out.cell
          have zl := HX.out.lt
          dsimp only at z0 z1 z2 z3 z4 z5 z6 z7 z8
          go_wp2_with fail
          refine (H4.out _).mono ?_
          rintro e w14 ⟨rfl, hb⟩
          have hz := (hb.block _ HX.out.lt).trans HX.out
          have HX := Lib.hid (show BxN _ (w.heap.size + 1) _ from hz)
          have HB := Lib.hid (ext_trans HB.out hb)
          clear hb hz z0 z1 z2 z3 z4 z5 z6 z7 z8 zl
          obtain ⟨z0, z1, z2, z3, z4, z5, z6, z7, z8⟩ := HX.out.cell
          have zl := HX.out.lt
          dsimp only at z0 z1 z2 z3 z4 z5 z6 z7 z8
          by_cases c3 : xa = 0
          · subst c3
            by_cases c4 : xb = 0
            · subst c4
              go_wp2_with fail
              refine (H5.out _).mono ?_
              rintro e w15 ⟨rfl, hb⟩
              have hz := (hb.block _ HX.out.lt).trans HX.out
              have HX := Lib.hid (show BxN _ (w.heap.size + 1) _ from hz)
              have HB := Lib.hid (ext_trans HB.out hb)
              clear hb hz z0 z1 z2 z3 z4 z5 z6 z7 z8 zl
              obtain ⟨z0, z1, z2, z3, z4, z5, z6, z7, z8⟩ := HX.out.cell
              have zl := HX.out.lt
              dsimp only at z0 z1 z2 z3 z4 z5 z6 z7 z8
              cases xd
              case false =>
                go_wp2_with fail
                refine (H6.out _).mono ?_
                rintro e w16 ⟨rfl, hb⟩
                have hz := (hb.block _ HX.out.lt).trans HX.out
                have HX := Lib.hid (show BxN _ (w.heap.size + 1) _ from hz)
                have HB := Lib.hid (ext_trans HB.out hb)
                clear hb hz z0 z1 z2 z3 z4 z5 z6 z7 z8 zl
                obtain ⟨z0, z1, z2, z3, z4, z5, z6, z7, z8⟩ := HX.out.cell
                have zl := HX.out.lt
                dsimp only at z0 z1 z2 z3 z4 z5 z6 z7 z8
                by_cases c5 : xn = 0
                · subst c5
                  go_wp2_with fail
                  go_ret
                  exact ⟨ret_int (by rw [HC.out]; simp [bad1, bad2, hv1, hv2, hv3, hv4, hv5, hv6]), HB.out⟩
                · have q5 : (xn == 0) = false := by simpa using c5
                  have r5 : (xn != 0) = true := by simpa using c5
                  go_wp2_with fail
                  go_ret
                  exact ⟨ret_int (by rw [HC.out]; simp [bad1, bad2, hv1, hv2, hv3, hv4, hv5, hv6, c5]), HB.out⟩
              case true =>
                go_wp2_with fail
                go_ret
                exact ⟨ret_int (by rw [HC.out]; simp [bad1, bad2, hv1, hv2, hv3, hv4, hv5, hv6]), HB.out⟩
            · have q4 : (xb == 0) = false := by simpa using c4
              have r4 : (xb != 0) = true := by simpa using c4
              go_wp2_with fail
              go_ret
              exact ⟨ret_int (by rw [HC.out]; simp [bad1, bad2, hv1, hv2, hv3, hv4, hv5, hv6, c4]), HB.out⟩
          · have q3 : (xa == 0) = false := by simpa using c3
            have r3 : (xa != 0) = true := by simpa using c3
            go_wp2_with fail
            go_ret
            exact ⟨ret_int (by rw [HC.out]; simp [bad1, bad2, hv1, hv2, hv3, hv4, hv5, hv6, c3]), HB.out⟩
        · have q1 : (xw == 0) = false := by simpa using c1
          have r1 : (xw != 0) = true := by simpa using c1
          go_wp2_with fail
          go_ret
          exact ⟨ret_int (by rw [HC.out]; simp [bad1, bad2, hv1, hv2, hv3, hv4, hv5, hv6, c1]), HB.out⟩
      · rw [hv1] at H1
        rw [hv2] at H2
        rw [hv3] at H3
        rw [hv4] at H4
        rw [hv5] at H5
        rw [hv6] at H6
        have HV := Lib.hid (And.intro hv1 (And.intro hv2 (And.intro hv3 (And.intro hv4 (And.intro hv5 hv6)))))
        go_wp2_with fail
        refine (H1.out _).mono ?_
        rintro e w11 ⟨rfl, hb⟩
        have hz := (hb.block _ HX.out.lt).trans HX.out
        have HX := Lib.hid (show BxN _ (w.heap.size + 1) _ from hz)
        have HB := Lib.hid (ext_trans HB.out hb)
        clear hb hz z0 z1 z2 z3 z4 z5 z6 z7 z8 zl
        obtain ⟨z0, z1, z2, z3, z4, z5, z6, z7, z8⟩ := HX.out.cell
        have zl := HX.out.lt
        dsimp only at z0 z1 z2 z3 z4 z5 z6 z7 z8
        by_cases c0 : xl = 0
        · subst c0
          go_wp2_with fail
          refine (H2.out _).mono ?_
          rintro e w12 ⟨rfl, hb⟩
          have hz := (hb.block _ HX.out.lt).trans HX.out
          have HX := Lib.hid (show BxN _ (w.heap.size + 1) _ from hz)
          have HB := Lib.hid (ext_trans HB.out hb)
          clear hb hz z0 z1 z2 z3 z4 z5 z6 z7 z8 zl
          obtain ⟨z0, z1, z2, z3, z4, z5, z6, z7, z8⟩ := HX.out.cell
          have zl := HX.out.lt
          dsimp only at z0 z1 z2 z3 z4 z5 z6 z7 z8
          by_cases c1 : xw = 0
          · subst c1
            go_wp2_with fail
            refine (H3.out _).mono ?_
            rintro e w13 ⟨rfl, hb⟩
            have hz := (hb.block _ HX.out.lt).trans HX.out
            have HX := Lib.hid (show BxN _ (w.heap.size + 1) _ from hz)
            have HB := Lib.hid (ext_trans HB.out hb)
            clear hb hz z0 z1 z2 z3 z4 z5 z6 z7 z8 zl
            obtain ⟨z0, z1, z2, z3, z4, z5, z6, z7, z8⟩ := HX.out.cell
            have zl := HX.out.lt
            dsimp only at z0 z1 z2 z3 z4 z5 z6 z7 z8
            by_cases c2 : xs = 0
            · subst c2
              go_wp2_with fail
              refine (H4.out _).mono ?_
              rintro e w14 ⟨rfl, hb⟩
              have hz := (hb.block _ HX.out.lt).trans HX.out
              have HX := Lib.hid (show BxN _ (w.heap.size + 1) _ from hz)
              have HB := Lib.hid (ext_trans HB.out hb)
              clear hb hz z0 z1 z2 z3 z4 z5 z6 z7 z8 zl
              obtain ⟨z0, z1, z2, z3, z4, z5, z6, z7, z8⟩ := HX.out.cell
              have zl := HX.out.lt
              dsimp only at z0 z1 z2 z3 z4 z5 z6 z7 z8
              go_wp2_with fail
              refine (H5.out _).mono ?_
              rintro e w15 ⟨rfl, hb⟩
              have hz := (hb.block _ HX.out.lt).trans HX.out
              have HX := Lib.hid (show BxN _ (w.heap.size + 1) _ from hz)
              have HB := Lib.hid (ext_trans HB.out hb)
              clear hb hz z0 z1 z2 z3 z4 z5 z6 z7 z8 zl
              obtain ⟨z0, z1, z2, z3, z4, z5, z6, z7, z8⟩ := HX.out.cell
              have zl := HX.out.lt
              dsimp only at z0 z1 z2 z3 z4 z5 z6 z7 z8
              cases xd
              case false =>
                go_wp2_with fail
                refine (H6.out _).mono ?_
                rintro e w16 ⟨rfl, hb⟩
                have hz := (hb.block _ HX.out.lt).trans HX.out
                have HX := Lib.hid (show BxN _ (w.heap.size + 1) _ from hz)
                have HB := Lib.hid (ext_trans HB.out hb)
                clear hb hz z0 z1 z2 z3 z4 z5 z6 z7 z8 zl
                obtain ⟨z0, z1, z2, z3, z4, z5, z6, z7, z8⟩ := HX.out.cell
                have zl := HX.out.lt
                dsimp only at z0 z1 z2 z3 z4 z5 z6 z7 z8
                go_wp2_with fail
                go_ret
                exact ⟨ret_int (by rw [HC.out]; simp [bad1, bad2, hv1, hv2, hv3, hv4, hv5, hv6]), HB.out⟩
              case true =>
                go_wp2_with fail
                go_ret
                exact ⟨ret_int (by rw [HC.out]; simp [bad1, bad2, hv1, hv2, hv3, hv4, hv5, hv6]), HB.out⟩
            · have q2 : (xs == 0) = false := by simpa using c2
              have r2 : (xs != 0) = true := by simpa using c2
              go_wp2_with fail
              go_ret
              exact ⟨ret_int (by rw [HC.out]; simp [bad1, bad2, hv1, hv2, hv3, hv4, hv5, hv6, c2]), HB.out⟩
          · have q1 : (xw == 0) = false := by simpa using c1
            have r1 : (xw != 0) = true := by simpa using c1
            go_wp2_with fail
            go_ret
            exact ⟨ret_int (by rw [HC.out]; simp [bad1, bad2, hv1, hv2, hv3, hv4, hv5, hv6, c1]), HB.out⟩
        · have q0 : (xl == 0) = false := by simpa using c0
          have r0 : (xl != 0) = true := by simpa using c0
          go_wp2_with fail
          go_ret
          exact ⟨ret_int (by rw [HC.out]; simp [bad1, bad2, hv1, hv2, hv3, hv4, hv5, hv6, c0]), HB.out⟩

end Go.Proofs.YtkfnjpmigifomaaDoor
