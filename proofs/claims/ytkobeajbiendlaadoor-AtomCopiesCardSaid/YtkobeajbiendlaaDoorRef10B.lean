/- What this text holds: the document's answer for what is wrong with a program; a program as the document's answer has it. No condition. -/
import Derived.Test.YtkobeajbiendlaaDoorRef10
import Derived.Deep.RegionHeld3
namespace Go.Proofs.YtkobeajbiendlaaDoor
open Go.RowKit

set_option maxRecDepth 100000 in
set_option maxHeartbeats 4000000 in
theorem rcheck_any (A : Option Addr) (l : List Ins) (cap : Nat) (w : World) (h : SlN w A l) : Calls Tryd.prog 53 #[.slice A l.length cap] w fun e w' => e = .returned (.tuple #[.int .i64 (chkP l).1, .int .i64 (chkP l).2]) ∧ Below w.heap.size w w' := by
  have H := Lib.hid h
  clear h
  by_cases h32 : 32 < l.length
  · have e1 : decide ((l.length : Int) > 32) = true := by simp; omega
    have HC : Hid (chkP l = (0, 11)) := Lib.hid (by unfold chkP; rw [if_pos h32])
    rw [HC.out]
    go_enter Tryd.func53, Tryd.ntmps53
    go_wp2_with fail
    go_ret2
    exact ⟨rfl, Below.refl _ _⟩
  · have e1 : decide ((l.length : Int) > 32) = false := by simp; omega
    have HC : Hid (chkP l = chkV l l.length l.length) := Lib.hid (by unfold chkP; rw [if_neg h32])
    rw [HC.out]
    have H32 : Hid (l.length ≤ 32) := Lib.hid (by omega)
    clear h32
    go_enter Tryd.func53, Tryd.ntmps53
    go_wp2_with fail
    go_loopg [4] l.length (fun g s4 wr => ∃ k : Nat, k + g = l.length ∧ s4 = .int .i64 k ∧ Hid ((chkV l l.length k).2 = 0) ∧ Hid (Below w.heap.size w wr))
    case atStart => exact ⟨0, by omega, rfl, Lib.hid rfl, Below.refl _ _⟩
    case round =>
      obtain ⟨k, hk, rfl, HV, HB⟩ := hrel
      by_cases hlt : k < l.length
      · have ek : decide ((k : Int) < (l.length : Int)) = true := by simp; omega
        have ek2 : decide (k < l.length) = true := by simpa using hlt
        obtain ⟨b, off, rfl, hb, hc⟩ := (H.out.ext HB.out) (by omega)
        obtain ⟨o0, o1, o2, o3⟩ := hc k hlt
        have HLT := Lib.hid (And.intro hk hlt)
        have hkl : (k : Int) < (l.length : Int) := by omega
        have hk32 : (k : Int) ≤ 32 := by have := H32.out; omega
        have HS : Hid ((chkV l l.length (k + 1)) = if mayV (atI l k) l.length = 0 then (0, 0) else ((k : Int) + 1, mayV (atI l k) l.length)) := Lib.hid (by
          show (if (chkV l l.length k).2 = 0 then _ else _) = _
          rw [if_pos HV.out])
        clear hc hk hlt
        generalize atI l k = x at o0 o1 o2 o3 HS
        go_wp2_with fail
        refine (rmay_any x l.length _).mono ?_
        rintro e w3 ⟨rfl, hb3⟩
        have HB3 := Lib.hid (ext_trans HB.out hb3)
        clear hb3 o0 o1 o2 o3
        by_cases hm : mayV x l.length = 0
        · rw [hm]
          have HM := Lib.hid hm
          clear hm
          go_wp2_with fail
          go_roundg (l.length - (k + 1))
          case measure => have := HLT.out; omega
          case rel => exact ⟨k + 1, by have := HLT.out; omega, by go_num, Lib.hid (by rw [HS.out, if_pos HM.out]), HB3⟩
        · have em : (mayV x l.length != 0) = true := by simpa using hm
          have HR : Hid (chkV l l.length l.length = ((k : Int) + 1, mayV x l.length)) := Lib.hid (by
            have h1 : (chkV l l.length (k + 1)) = ((k : Int) + 1, mayV x l.length) := by rw [HS.out, if_neg hm]
            rw [chkV_bad (k := k + 1) (by rw [h1]; exact hm) l.length HLT.out.2, h1])
          clear hm
          generalize mayV x l.length = r at em HR ⊢
          go_wp2_with fail
          go_ret2
          exact ⟨by rw [HR.out]; rfl, HB3.out⟩
      · have ek : decide ((k : Int) < (l.length : Int)) = false := by simp; omega
        have ek2 : decide (k < l.length) = false := by simpa using hlt
        have hkl : k = l.length := by omega
        have HR : Hid (chkV l l.length l.length = (0, 0)) := Lib.hid (by rw [← hkl]; rw [← hkl] at HV; exact chkV_zero HV.out)
        clear hkl hk hlt
        go_wp2_with fail
        go_ret2
        exact ⟨by rw [HR.out]; rfl, HB.out⟩

theorem info_ins10 : (Tryd.prog.info? 130).map (fun i => (i.zero, i.size, i.bytes)) = some (some (.agg #[.int .i64 0, .int .i64 0, .int .i64 0, .int .i64 0]), 4, 32) := by kernel_rfl
theorem flatI_take {l : List Ins} {k : Nat} (hk : k < l.length) : flatI (l.take (k + 1)) = flatI (l.take k) ++ [.int .i64 (atI l k).op, .int .i64 (atI l k).a, .int .i64 (atI l k).b, .int .i64 (atI l k).c] := by
  rw [List.take_add_one]
  have e : l[k]? = some (atI l k) := by unfold atI; rw [List.getElem?_eq_getElem hk]; rfl
  rw [e]
  simp [flatI]
theorem row_slI10 {w : World} {base : Nat} {A : Option Addr} {n c : Nat} {l : List Ins} {t : TypeId} (h : w.ownsRow base t 4 (.slice A n c) l.length (flatI l)) : SlN w A l := by
  rcases h.2 with ⟨hv, h0⟩ | ⟨g, cap, cur, hv, hb, hg, hc1, hc2, hc3, hc4⟩
  · intro h1
    omega
  · obtain ⟨rfl, _, _⟩ := Value.slice.inj hv
    have key : ∀ j u, (flatI l)[j]? = some u → w.cell? ⟨g, 0 + j, none⟩ = some u := by
      intro j u hu
      have hj : j < l.length * 4 := by rw [← flatI_len]; exact (List.getElem?_eq_some_iff.1 hu).1
      rw [← hc4, List.getElem?_take, if_pos hj] at hu
      unfold World.cell?
      rw [hg, Nat.zero_add]
      simpa using hu
    exact fun _ => ⟨g, 0, rfl, lt_of hg, fun i hi => ⟨key _ _ (flatI_at l i hi).1, key _ _ (flatI_at l i hi).2.1, key _ _ (flatI_at l i hi).2.2.1, key _ _ (flatI_at l i hi).2.2.2⟩⟩
set_option maxRecDepth 100000 in
set_option maxHeartbeats 4000000 in
/-- A program as the document's answer has it: the same cells. -/
theorem plain10 (A : Option Addr) (l : List Ins) (cap : Nat) (w : World) (h : SlN w A l) (hn : l.length ≤ 1000) : Calls Tryd.prog 54 #[.slice A l.length cap] w fun e w' =>
    ∃ A' c', e = .returned (.slice A' l.length c') ∧ SlN w' A' l ∧ (∀ ad, A' = some ad → w.heap.size ≤ ad.block) ∧ (A' = none → l.length = 0 ∧ c' = 0) ∧ Below w.heap.size w w' := by
  have H := Lib.hid h
  have HN := Lib.hid hn
  obtain ⟨i0, hi, hz0, hz1, hz2⟩ := info_parts info_ins10
  clear h hn
  go_enter Tryd.func54, Tryd.ntmps54
  go_wp2_with fail
  go_loopg [3, 4] l.length (fun g s3 s4 wr => ∃ (k : Nat) (B : Option Addr) (c : Nat), k + g = l.length ∧ s3 = .slice B k c ∧ s4 = .int .i64 k ∧ Hid (wr.ownsRow w.heap.size 130 4 (.slice B k c) k (flatI (l.take k)) ∧ Below w.heap.size w wr))
  case atStart => exact ⟨0, none, 0, by omega, rfl, rfl, Lib.hid ⟨World.ownsRow_nil _ _ _ _, Below.refl _ _⟩⟩
  case round =>
    obtain ⟨k, B, c, hk, rfl, rfl, HR⟩ := hrel
    by_cases hlt : k < l.length
    · have ek : decide ((k : Int) < (l.length : Int)) = true := by simp; omega
      have ek2 : decide (k < l.length) = true := by simpa using hlt
      obtain ⟨b, off, rfl, hb, hc⟩ := (H.out.ext HR.out.2) (by omega)
      obtain ⟨o0, o1, o2, o3⟩ := hc k hlt
      have HLT := Lib.hid (And.intro hk hlt)
      have hkl : (k : Int) < (l.length : Int) := by omega
      have hk32 : (k : Int) ≤ 1000 := by have := HN.out; omega
      have HS := Lib.hid (flatI_take hlt)
      have hkn : Hid (k + 1 ≤ 1000) := Lib.hid (by have := HN.out; show k + 1 ≤ 1000; omega)
      clear hc hk hlt
      generalize atI l k = x at o0 o1 o2 o3 HS
      obtain ⟨xo, xa, xb, xc⟩ := x
      dsimp only at o0 o1 o2 o3 HS
      go_wp2_with fail
      have HO : Hid ((wr.drew.alloc (.cells #[.int .i64 xo, .int .i64 xa, .int .i64 xb, .int .i64 xc] 130)).ownsRow w.heap.size 130 4 (.slice B k c) k (flatI (l.take k))) := Lib.hid (row_keep HR.out.1 (fun q hq => Below.heap_alloc _ _ _ (HR.out.1.lt q hq).2))
      have HNw : Hid (∀ j u, [Value.int .i64 xo, Value.int .i64 xa, Value.int .i64 xb, Value.int .i64 xc][j]? = some u → (wr.drew.alloc (.cells #[.int .i64 xo, .int .i64 xa, .int .i64 xb, .int .i64 xc] 130)).cell? ((⟨wr.heap.size, 0, none⟩ : Addr).add j) = some u) := Lib.hid (fun j u hu => by
        rw [Addr.add_lit, Nat.zero_add]
        unfold World.cell?
        rw [show (wr.drew.alloc (.cells #[.int .i64 xo, .int .i64 xa, .int .i64 xb, .int .i64 xc] 130)).heap[wr.heap.size]? = _ from alNew rfl]
        simpa using hu)
      go_region_law (refine step_append_full _ rfl (.tmp 11) (.tmp 34) 110 rfl w.heap.size 130 i0 (.agg #[.int .i64 0, .int .i64 0, .int .i64 0, .int .i64 0]) 4 32 Tryd.underlying110 hi hz0 hz1 hz2 rfl (by decide) (.slice B k c) k (flatI (l.take k)) (by simp [Act.eval]) HO.out (some ⟨wr.heap.size, 0, none⟩) 1 1 [.int .i64 xo, .int .i64 xa, .int .i64 xb, .int .i64 xc] (by simp [Act.eval]) (fun e => by cases e) rfl (fun ad e => by cases e; exact HNw.out) (by intro u hu; simp at hu; rcases hu with rfl | rfl | rfl | rfl <;> rfl) (by have := hkn.out; unfold maxLen; omega) (by have := hkn.out; omega) (by have := HR.out.2.size; simp; omega) ?_; intro A3 c3 w2 h3 ho hg hf3; have HG2 := Lib.hid (And.intro ho hg); clear ho hg hf3 h3)
      all_goals
        have HN2 := Lib.hid (show w2.ownsRow w.heap.size 130 4 (.slice A3 (k + 1) c3) (k + 1) (flatI (l.take (k + 1))) by rw [HS.out]; exact HG2.out.1)
        have HB2 := Lib.hid (show Below w.heap.size w w2 from (ext_alloc _ (ext_drew HR.out.2)).grown HG2.out.2 (ext_alloc _ (ext_drew HR.out.2)).size (fun q hq => (HR.out.1.lt q hq).1))
        go_wp2_with fail
        go_roundg (l.length - (k + 1))
        case measure => have := HLT.out; omega
        case rel => exact ⟨k + 1, _, _, by have := HLT.out; omega, rfl, by go_num, Lib.hid ⟨HN2.out, HB2.out⟩⟩
    · have ek : decide ((k : Int) < (l.length : Int)) = false := by simp; omega
      have ek2 : decide (k < l.length) = false := by simpa using hlt
      obtain rfl : k = l.length := by omega
      have hrow := HR.out.1
      rw [List.take_length] at hrow
      have HROW := Lib.hid hrow
      clear hk hlt hrow
      go_wp2_with fail
      go_ret
      refine ⟨B, c, rfl, row_slI10 HROW.out, fun ad e => ?_, fun e => ?_, HR.out.2⟩
      · subst e
        exact own_ge HROW.out rfl
      · obtain ⟨A2, c2, h1, h2⟩ := row_form HROW.out
        obtain ⟨rfl, _, rfl⟩ := Value.slice.inj h1
        exact h2 e

end Go.Proofs.YtkobeajbiendlaaDoor
