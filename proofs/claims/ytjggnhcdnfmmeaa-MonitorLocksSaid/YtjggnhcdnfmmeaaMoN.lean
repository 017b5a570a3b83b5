/- What this text holds: a new monitor. No condition. -/
import Derived.Test.YtjggnhcdnfmmeaaMoF
import Derived.Carry
namespace Go.Proofs.Ytjggnhcdnfmmeaa
open Go.RowKit Go.Maps

def esK (os : List Int) (k : Nat) : List En := (os.take k).map (fun o => (o, false)) ++ List.replicate (os.length - k) (0, false)
theorem esK_len (os : List Int) (k : Nat) : (esK os k).length = os.length := by simp [esK]; omega
theorem esK_zero (os : List Int) : esK os 0 = List.replicate os.length (0, false) := by simp [esK]
theorem esK_all (os : List Int) : esK os os.length = os.map (fun o => (o, false)) := by simp [esK]
theorem esK_next {os : List Int} {k : Nat} (hk : k < os.length) : (esK os k).set k (os[k]?.getD 0, false) = esK os (k + 1) := by
  have hx : os[k]?.getD 0 = os[k] := by simp [hk]
  have e : os.length - k = (os.length - (k + 1)) + 1 := by omega
  have hl : ((os.take k).map (fun o => ((o, false) : En))).length = k := by simp; omega
  unfold esK
  rw [hx, e, List.replicate_succ, List.set_append_right _ _ (by omega), hl, Nat.sub_self, List.set_cons_zero, List.take_succ_eq_append_getElem hk]
  simp only [List.map_append, List.map_cons, List.map_nil, List.append_assoc, List.cons_append, List.nil_append]
/-- What is wrong with a new monitor. -/
def newM (n : Int) (os : List Int) : Int := if n < 1 ∨ 4 < n ∨ os.length < 1 ∨ 16 < os.length then 10 else if os.all ownB then 0 else 1
def newS (os : List Int) : Ms := ⟨os.map (fun o => (o, false)), fun _ => none⟩
theorem newS_ok {os : List Int} {n : Int} (h : newM n os = 0) (k : Nat) : Ms.ok ⟨esK os k, fun _ => none⟩ := by
  unfold newM at h
  split at h
  · exact absurd h (by decide)
  · split at h
    · rename_i h1 h2
      refine ⟨by rw [esK_len]; omega, fun i hi => ?_, fun _ _ hr => by cases hr⟩
      have hi' : i < os.length := by rw [esK_len] at hi; exact hi
      unfold atE
      rw [List.getElem?_eq_getElem hi]
      show ownB ((esK os k)[i]).1 = true
      have hm := List.getElem_mem hi
      unfold esK at hm
      rcases List.mem_append.1 hm with h3 | h3
      · obtain ⟨o, ho, he⟩ := List.mem_map.1 h3
        have h4 : ownB o = true := List.all_eq_true.1 h2 o (List.mem_of_mem_take ho)
        have h5 : (esK os k)[i].1 = o := by unfold esK; rw [← he]
        rw [h5]
        exact h4
      · obtain ⟨_, he⟩ := List.mem_replicate.1 h3
        have h5 : (esK os k)[i].1 = 0 := by unfold esK; rw [he]
        rw [h5]
        rfl
    · exact absurd h (by decide)
section
variable {w : World}
set_option maxRecDepth 100000 in
set_option maxHeartbeats 4000000 in
theorem mnew_rng (n : Int) (A : Option Addr) (cap : Nat) (os : List Int) (h : n < 1 ∨ 4 < n ∨ os.length < 1 ∨ 16 < os.length) :
    Calls Try.prog 28 #[.int .i64 n, .slice A os.length cap] w fun e w' => e = .returned (.tuple #[.pointer none, .int .i64 10]) ∧ Below w.heap.size w w' := by
  by_cases h1 : n < 1
  · have e1 : decide (n < 1) = true := by simpa using h1
    clear h h1
    go_enter Try.func28, Try.ntmps28
    go_wp2_with fail
    go_ret2
    exact ⟨rfl, (by repeat (with_reducible first | exact Below.refl _ _ | assumption | (refine ext_next (by assumption) ?_) | apply ext_alloc | apply ext_past | apply ext_drew | apply ext_drewN))⟩
  have e1 : decide (n < 1) = false := by simpa using h1
  by_cases h2 : 4 < n
  · have e2 : decide (n > 4) = true := by simpa using h2
    have e3 : decide (4 < n) = true := by simpa using h2
    clear h h1 h2
    go_enter Try.func28, Try.ntmps28
    go_wp2_with fail
    go_ret2
    exact ⟨rfl, (by repeat (with_reducible first | exact Below.refl _ _ | assumption | (refine ext_next (by assumption) ?_) | apply ext_alloc | apply ext_past | apply ext_drew | apply ext_drewN))⟩
  have e2 : decide (n > 4) = false := by simpa using h2
  have e3 : decide (4 < n) = false := by simpa using h2
  by_cases h3 : os.length < 1
  · have h4 : os.length = 0 := by omega
    clear h h1 h2 h3
    rw [h4]
    go_enter Try.func28, Try.ntmps28
    go_wp2_with fail
    go_ret2
    exact ⟨rfl, (by repeat (with_reducible first | exact Below.refl _ _ | assumption | (refine ext_next (by assumption) ?_) | apply ext_alloc | apply ext_past | apply ext_drew | apply ext_drewN))⟩
  have e4 : decide ((os.length : Int) < 1) = false := decide_eq_false (by omega)
  have e5 : decide ((os.length : Int) > 16) = true := decide_eq_true (by omega)
  have e6 : decide (16 < (os.length : Int)) = true := decide_eq_true (by omega)
  have e7 : decide (16 < os.length) = true := decide_eq_true (by omega)
  have e8 : decide (os.length < 1) = false := decide_eq_false (by omega)
  clear h h1 h2 h3
  go_enter Try.func28, Try.ntmps28
  go_wp2_with fail
  go_ret2
  exact ⟨rfl, (by repeat (with_reducible first | exact Below.refl _ _ | assumption | (refine ext_next (by assumption) ?_) | apply ext_alloc | apply ext_past | apply ext_drew | apply ext_drewN))⟩
set_option maxRecDepth 100000 in
set_option maxHeartbeats 4000000 in
theorem mnew_in (n : Int) (A : Option Addr) (cap : Nat) (os : List Int) (hA : SlI w A os) (h : ¬ (n < 1 ∨ 4 < n ∨ os.length < 1 ∨ 16 < os.length)) :
    Calls Try.prog 28 #[.int .i64 n, .slice A os.length cap] w fun e w' => Below w.heap.size w w' ∧ ((newM n os = 1 ∧ e = .returned (.tuple #[.pointer none, .int .i64 1])) ∨ (newM n os = 0 ∧ ∃ p t g b, e = .returned (.tuple #[.pointer (some ⟨p, 0, none⟩), .int .i64 0]) ∧ Mn w' w.heap.size p t g b n 0 (newS os))) := by
  have HA := Lib.hid hA
  have e1 : decide (n < 1) = false := decide_eq_false (by omega)
  have e2 : decide (n > 4) = false := decide_eq_false (by omega)
  have e3 : decide (4 < n) = false := decide_eq_false (by omega)
  have e4 : decide ((os.length : Int) < 1) = false := decide_eq_false (by omega)
  have e5 : decide ((os.length : Int) > 16) = false := decide_eq_false (by omega)
  have e6 : decide (16 < (os.length : Int)) = false := decide_eq_false (by omega)
  have e7 : decide (16 < os.length) = false := decide_eq_false (by omega)
  have e8 : decide (os.length < 1) = false := decide_eq_false (by omega)
  have HN := Lib.hid h
  have HNE : Hid (newM n os = if os.all ownB then 0 else 1) := Lib.hid (by unfold newM; rw [if_neg h])
  have hmm := @run_makeMap Try.prog
  clear hA h
  go_enter Try.func28, Try.ntmps28
  go_wp2_with fail
  go_loopg [32] os.length (fun gk s32 wr => ∃ k : Nat, s32 = .int .i64 k ∧ k + gk = os.length ∧ Hid ((os.take k).all ownB = true) ∧ wr = w)
  case atStart => exact ⟨0, rfl, by omega, Lib.hid rfl, rfl⟩
  case round =>
    obtain ⟨k, rfl, hk, HT, hww⟩ := hrel
    have hww2 := hww.symm
    subst hww2
    clear hww
    by_cases hlt : k < os.length
    · have ek : decide ((k : Int) < (os.length : Int)) = true := by simp; omega
      have ek2 : decide (k < os.length) = true := by simpa using hlt
      have hkl : (k : Int) < (os.length : Int) := by omega
      have hmx : (os.length : Int) ≤ 16 := by have := HN.out; omega
      obtain ⟨bb, off, rfl, hbl, hcs⟩ := HA.out (by omega)
      have y0 := hcs k hlt
      have HTK := Lib.hid (all_take (p := ownB) hlt)
      have HAG := Lib.hid (all_get (p := ownB) hlt)
      have HLT := Lib.hid (And.intro hk hlt)
      clear hcs hk hlt
      generalize os[k]?.getD 0 = x at *
      by_cases h1 : x < 0
      · have f1 : decide (x < 0) = true := by simpa using h1
        have HF := Lib.hid (HAG.out (by unfold ownB; simp; omega))
        clear h1
        go_wp2_with fail
        go_ret2
        exact ⟨Below.refl _ _, .inl ⟨by rw [HNE.out, HF.out]; rfl, rfl⟩⟩
      have f1 : decide (x < 0) = false := by simpa using h1
      by_cases h2 : 4 < x
      · have f2 : decide (x > 4) = true := by simpa using h2
        have f3 : decide (4 < x) = true := by simpa using h2
        have HF := Lib.hid (HAG.out (by unfold ownB; simp; omega))
        clear h1 h2
        go_wp2_with fail
        go_ret2
        exact ⟨Below.refl _ _, .inl ⟨by rw [HNE.out, HF.out]; rfl, rfl⟩⟩
      have f2 : decide (x > 4) = false := by simpa using h2
      have f3 : decide (4 < x) = false := by simpa using h2
      have HT2 := Lib.hid (show (os.take (k + 1)).all ownB = true by rw [HTK.out, HT.out]; unfold ownB; simp; omega)
      clear h1 h2
      go_wp2_with fail
      go_roundg (os.length - (k + 1))
      case measure => have := HLT.out; omega
      case rel => exact ⟨k + 1, by go_num, by have := HLT.out; omega, HT2, rfl⟩
    · have ek : decide ((k : Int) < (os.length : Int)) = false := by simp; omega
      have ek2 : decide (k < os.length) = false := by simpa using hlt
      have HAL : Hid (newM n os = 0) := Lib.hid (by have := HT.out; rw [List.take_of_length_le (by omega)] at this; rw [HNE.out, this]; rfl)
      clear hk hlt HT
      have HTN := Lib.hid (new_ok os.length w (by have := HN.out; omega) (by have := HN.out; omega))
      go_wp2_with fail
      refine HTN.out.mono ?_
      rintro e w1 ⟨rfl, ht1, hb1, hs1⟩
      have HT1 := Lib.hid (And.intro ht1 (And.intro hb1 hs1))
      clear ht1 hb1 hs1 HTN
      go_wp2_with fail
      have hls := HN.out
      obtain ⟨w3, hw3⟩ : ∃ w3, w3 = (w1.alloc (.map #[] 0)).alloc (.cells #[.pointer (some ⟨w.heap.size + 1, 0, none⟩), .int .i64 n, .map (some w1.heap.size)] 76) := ⟨_, rfl⟩
      rw [← hw3]
      have HM0 : Hid (Mn w3 w.heap.size (w1.heap.size + 1) (w.heap.size + 1) w.heap.size w1.heap.size n 0 ⟨esK os 0, fun _ => none⟩ ∧ Below w.heap.size w w3) := by
        obtain ⟨ht1, hb1, hs1⟩ := HT1.out
        have hb3 : Below w1.heap.size w1 w3 := by rw [hw3]; exact ext_alloc _ (ext_alloc _ (Below.refl _ _))
        refine Lib.hid ⟨⟨newS_ok HAL.out 0, by omega, by rw [hw3]; exact alNew (by simp), ?_, ?_, by omega, by omega⟩, ext_trans hb1 hb3⟩
        · show Tb w3 _ _ (esK os 0)
          rw [esK_zero]
          exact Tb.ext hb3 ht1
        · rw [hw3]
          exact (Mm.made w1).block (alOld (alNew rfl) |>.trans (alNew rfl).symm)
      have HSW := Lib.hid HT1.out.2.2
      clear hw3 hls HT1
      obtain ⟨p, hp⟩ : ∃ p, p = w1.heap.size + 1 := ⟨_, rfl⟩
      obtain ⟨bm, hbm⟩ : ∃ bm, bm = w1.heap.size := ⟨_, rfl⟩
      rw [← hp, ← hbm] at HM0
      rw [← hp]
      clear hp hbm
      go_loopg [59] os.length (fun gk s59 wr => ∃ k : Nat, s59 = .int .i64 k ∧ k + gk = os.length ∧ Hid (Mn wr w.heap.size p (w.heap.size + 1) w.heap.size bm n 0 ⟨esK os k, fun _ => none⟩ ∧ Below w.heap.size w wr))
      case atStart => exact ⟨0, rfl, by omega, HM0⟩
      case round =>
        clear HM0
        obtain ⟨k, rfl, hk, HQ⟩ := hrel
        by_cases hlt : k < os.length
        · have ek : decide ((k : Int) < (os.length : Int)) = true := by simp; omega
          have ek2 : decide (k < os.length) = true := by simpa using hlt
          have hkl : (k : Int) < (os.length : Int) := by omega
          have hmx : (os.length : Int) ≤ 16 := by have := HN.out; omega
          obtain ⟨bb, off, rfl, hbl, hcs⟩ := HA.out (by omega)
          have y0 := (HQ.out.2.cell (p := ⟨bb, off + k, none⟩) hbl).trans (hcs k hlt)
          obtain ⟨q0, q1, q2⟩ := HQ.out.1.cells
          have pl := HQ.out.1.lt.1
          have how : ownB (os[k]?.getD 0) = true := by
            have h1 : os.all ownB = true := by
              have := HAL.out
              rw [HNE.out] at this
              cases h9 : os.all ownB with
              | true => rfl
              | false => rw [h9] at this; exact absurd this (by decide)
            have h2 : os[k]?.getD 0 = os[k] := by simp [hlt]
            rw [h2]
            exact List.all_eq_true.1 h1 _ (List.getElem_mem hlt)
          have HSE := Lib.hid (set_yes (w.heap.size + 1) w.heap.size (esK os k) k (os[k]?.getD 0) false wr HQ.out.1.tb (by omega) (by rw [esK_len]; omega) how)
          have HNX := Lib.hid (esK_next hlt)
          have HOW := Lib.hid how
          have HLT := Lib.hid (And.intro hk hlt)
          clear hcs hk hlt how
          generalize os[k]?.getD 0 = x at *
          go_wp2_with fail
          refine HSE.out.mono ?_
          rintro e w5 ⟨rfl, hg5, ht5⟩
          have hm5 := HQ.out.1.setE k x false HOW.out hg5 (by simpa using ht5)
          rw [HNX.out] at hm5
          have HM5 := Lib.hid (And.intro hm5 (HQ.out.2.grown hg5 HQ.out.2.size (fun q e => by cases e; exact Nat.le_refl _)))
          clear hg5 ht5 hm5
          go_wp2_with fail
          go_roundg (os.length - (k + 1))
          case measure => have := HLT.out; omega
          case rel => exact ⟨k + 1, by go_num, by have := HLT.out; omega, HM5⟩
        · have ek : decide ((k : Int) < (os.length : Int)) = false := by simp; omega
          have ek2 : decide (k < os.length) = false := by simpa using hlt
          obtain rfl : k = os.length := by omega
          clear hk hlt
          go_wp2_with fail
          go_ret2
          refine ⟨HQ.out.2, .inr ⟨HAL.out, p, w.heap.size + 1, w.heap.size, bm, rfl, ?_⟩⟩
          have := HQ.out.1
          rw [esK_all] at this
          exact this
theorem mnew_any (n : Int) (A : Option Addr) (cap : Nat) (os : List Int) (hA : SlI w A os) :
    Calls Try.prog 28 #[.int .i64 n, .slice A os.length cap] w fun e w' => Below w.heap.size w w' ∧ ((newM n os ≠ 0 ∧ e = .returned (.tuple #[.pointer none, .int .i64 (newM n os)])) ∨ (newM n os = 0 ∧ ∃ p t g b, e = .returned (.tuple #[.pointer (some ⟨p, 0, none⟩), .int .i64 0]) ∧ Mn w' w.heap.size p t g b n 0 (newS os))) := by
  by_cases h : n < 1 ∨ 4 < n ∨ os.length < 1 ∨ 16 < os.length
  · have e : newM n os = 10 := by unfold newM; rw [if_pos h]
    rw [e]
    exact (mnew_rng n A cap os h).mono fun e w' ⟨he, hb⟩ => ⟨hb, .inl ⟨by decide, he⟩⟩
  · refine (mnew_in n A cap os hA h).mono fun e w' ⟨hb, h2⟩ => ⟨hb, ?_⟩
    rcases h2 with ⟨h3, h4⟩ | ⟨h3, h4⟩
    · exact .inl ⟨by rw [h3]; decide, by rw [h3]; exact h4⟩
    · exact .inr ⟨h3, h4⟩
end

end Go.Proofs.Ytjggnhcdnfmmeaa
