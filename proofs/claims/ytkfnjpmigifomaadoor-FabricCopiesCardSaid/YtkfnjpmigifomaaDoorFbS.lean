/- What this text holds: the rows of a fabric, as sequences. No condition. -/
import Derived.Test.YtkfnjpmigifomaaDoorFbT
import Derived.Test.YtkfnjpmigifomaaDoorFbA
import Derived.Test.YtkfnjpmigifomaaDoorApp
namespace Go.Proofs.YtkfnjpmigifomaaDoor
open Go.RowKit

section
variable {w : World} {B p : Nat} {c : Cfg} {n : Nat} {P : Nat → Nat} {V : Nat → Value} {G : Nat → List Nt}
theorem flane_ok (h : Fa w B p c n P V G) {i k : Nat} (hi : (i : Int) < c.co) (hk : k < 4) :
    Calls Tryd.prog 84 #[.pointer (some ⟨p, 0, none⟩), .int .i64 i, .int .i64 k] w fun e w' => ∃ b v', e = .returned (Rw.fn ⟨b, v', G (i * 4 + k)⟩) ∧ NV w' b v' (G (i * 4 + k)) ∧ w.heap.size ≤ b ∧ (∀ g, v'.ownBlock = some g → w.heap.size ≤ g) ∧ Below w.heap.size w w' := by
  have HF := Lib.hid (ffind_ok h hi hk)
  have hn := h.hn
  have h16 := h.n16
  have hlt : i * 4 + k < n := by omega
  have hft := h.fit _ hlt
  have HR := Lib.hid (allN_any _ _ _ _ w (h.la _ hlt) (by omega))
  clear h hn h16 hft hlt hi hk
  generalize P (i * 4 + k) = pp at *
  generalize G (i * 4 + k) = xs at *
  go_enter Tryd.func84, Tryd.ntmps84
  go_wp2_with fail
  refine HF.out.mono ?_
  rintro e w1 ⟨rfl, hw⟩
  subst hw
  go_wp2_with fail
  refine HR.out.mono ?_
  rintro e w2 ⟨b, v', rfl, hnv, h1, h2, hb⟩
  have HP := Lib.hid (And.intro hnv (And.intro h1 (And.intro h2 hb)))
  clear hnv h1 h2 hb
  go_wp2_with fail
  go_ret
  exact ⟨b, v', rfl, HP.out⟩
/-- Rows that are being gathered. -/
structure Rq (w wr : World) (k : Nat) (A : Option Addr) (cap : Nat) (rs : List Rw) (G : Nat → List Nt) : Prop where
  be : Below w.heap.size w wr
  own : wr.ownsRow w.heap.size 79 1 (.slice A k cap) k (rs.map Rw.fn)
  len : rs.length = k
  row : ∀ r ∈ rs, NV wr r.b r.v r.xs ∧ w.heap.size ≤ r.b ∧ (∀ g, r.v.ownBlock = some g → w.heap.size ≤ g)
  ap : ∀ r ∈ rs, (Value.slice A k cap).ownBlock ≠ some r.b ∧ ∀ g, r.v.ownBlock = some g → (Value.slice A k cap).ownBlock ≠ some g
  xs : rs.map Rw.xs = (List.range k).map G
theorem Rq.ext {wr w2 : World} {k cap : Nat} {A : Option Addr} {rs : List Rw} (h : Rq w wr k A cap rs G) (hb : Below wr.heap.size wr w2) : Rq w w2 k A cap rs G :=
  ⟨ext_trans h.be hb, row_keep h.own (fun g hg => hb.block g (h.own.lt g hg).2), h.len, fun r hr => ⟨(h.row r hr).1.ext hb, (h.row r hr).2⟩, h.ap, h.xs⟩
/-- One row more. -/
theorem Rq.next {wr w2 w4 : World} {k cap cap4 : Nat} {A A4 : Option Addr} {rs : List Rw} {r : Rw} (h : Rq w wr k A cap rs G) (hb : Below wr.heap.size wr w2) (hn : NV w2 r.b r.v r.xs) (h1 : wr.heap.size ≤ r.b) (h2 : ∀ g, r.v.ownBlock = some g → wr.heap.size ≤ g) (hx : r.xs = G k)
    (ho : w4.ownsRow w.heap.size 79 1 (.slice A4 (k + 1) cap4) (k + 1) (rs.map Rw.fn ++ [r.fn])) {w3 : World} (hb3 : Below w2.heap.size w2 w3) (hg : w3.grownBy w4 (Value.slice A k cap).ownBlock) (hf : ∀ g, (Value.slice A4 (k + 1) cap4).ownBlock = some g → (Value.slice A k cap).ownBlock = some g ∨ w3.heap.size ≤ g) :
    Rq w w4 (k + 1) A4 cap4 (rs ++ [r]) G := by
  have hs := hb.size
  have hs3 := hb3.size
  have hs0 := h.be.size
  have hold : ∀ g, (Value.slice A k cap).ownBlock = some g → w.heap.size ≤ g ∧ g < wr.heap.size := fun g e => h.own.lt g e
  have keep : ∀ g, g < w3.heap.size → (Value.slice A k cap).ownBlock ≠ some g → w4.heap[g]? = w3.heap[g]? := fun g hl hne => hg.block g hl (fun e => hne e.symm)
  refine ⟨(ext_trans (ext_trans h.be hb) hb3).grown hg (ext_trans (ext_trans h.be hb) hb3).size (fun g e => (hold g e).1), by simpa using ho, by simp [h.len], fun q hq => ?_, fun q hq => ?_, by simp [h.xs, hx, List.range_succ]⟩
  · rcases List.mem_append.1 hq with hq | hq
    · obtain ⟨n1, n2, n3⟩ := h.row q hq
      obtain ⟨a1, a2⟩ := h.ap q hq
      have n4 := n1.lt
      refine ⟨n1.keep ⟨(keep _ (by omega) a1).trans (((ext_trans hb hb3).block _ n4)), fun g hg2 => ?_⟩, n2, n3⟩
      have n5 := (n1.own.lt g hg2).2
      exact (keep _ (by omega) (a2 g hg2)).trans ((ext_trans hb hb3).block _ n5)
    · obtain rfl := List.mem_singleton.1 hq
      have n4 := hn.lt
      refine ⟨hn.keep ⟨(keep _ (by omega) (fun e => by have := hold _ e; omega)).trans (hb3.block _ n4), fun g hg2 => ?_⟩, by omega, fun g hg2 => by have := h2 g hg2; omega⟩
      have n5 := (hn.own.lt g hg2).2
      have n6 := h2 g hg2
      exact (keep _ (by omega) (fun e => by have := hold _ e; omega)).trans (hb3.block _ n5)
  · rcases List.mem_append.1 hq with hq | hq
    · obtain ⟨n1, n2, n3⟩ := h.row q hq
      obtain ⟨a1, a2⟩ := h.ap q hq
      have n4 := n1.lt
      refine ⟨fun e => ?_, fun g hg2 e => ?_⟩
      · rcases hf _ e with h9 | h9
        · exact a1 h9
        · omega
      · have n5 := (n1.own.lt g hg2).2
        rcases hf _ e with h9 | h9
        · exact a2 g hg2 h9
        · omega
    · obtain rfl := List.mem_singleton.1 hq
      have n4 := hn.lt
      refine ⟨fun e => ?_, fun g hg2 e => ?_⟩
      · rcases hf _ e with h9 | h9
        · have := hold _ h9; omega
        · omega
      · have n5 := (hn.own.lt g hg2).2
        have n6 := h2 g hg2
        rcases hf _ e with h9 | h9
        · have := hold _ h9; omega
        · omega
theorem info_seq4 : (Tryd.prog.info? 79).map (fun i => (i.zero, i.size, i.bytes)) = some (some .nilFunc, 1, 8) := by kernel_rfl
theorem valuesS_any (A : Option Addr) (n c : Nat) (w : World) : Calls Tryd.prog 99 #[.slice A n c] w fun e w' =>
    e = .returned (.func (.func 104) #[] #[.pointer (some ⟨w.heap.size, 0, none⟩)]) ∧ w' = w.alloc (.cells #[.slice A n c] 166) := by
  go_enter Tryd.func99, Tryd.ntmps99
  go_wp2
  go_ret
  exact ⟨rfl, rfl⟩
set_option maxRecDepth 100000 in
set_option maxHeartbeats 4000000 in
theorem frows_ok (h : Fa w B p c n P V G) :
    Calls Tryd.prog 78 #[.pointer (some ⟨p, 0, none⟩)] w fun e w' => ∃ b v rs, e = .returned (.func (.func 104) #[] #[.pointer (some ⟨b, 0, none⟩)]) ∧ RV w' b v rs ∧ rs.map Rw.xs = (List.range n).map G ∧ (∀ k, RK b v rs k → w.heap.size ≤ k) ∧ Below w.heap.size w w' := by
  obtain ⟨i0, hi, hz0, hz1, hz2⟩ := info_parts info_seq4
  have h16 := h.n16
  have hn := h.hn
  obtain ⟨m, hm⟩ : ∃ m : Nat, c.co = m := ⟨c.co.toNat, by omega⟩
  have HNM := Lib.hid (show n = m * 4 ∧ m ≤ 4 by omega)
  have x0 := h.c0
  rw [hm] at x0
  have HM := Lib.hid hm
  have H := Lib.hid h
  have hl := h.lt
  have hm4 : (m : Int) ≤ 4 := by omega
  clear h h16 hn hm
  go_enter Tryd.func78, Tryd.ntmps78
  go_wp2_with fail
  go_loopg [13, 3] m (fun g s13 s3 wr => ∃ (i : Nat) (A : Option Addr) (cap : Nat), s13 = .int .i64 i ∧ s3 = .slice A (i * 4) cap ∧ i + g = m ∧ Hid (∃ rs, Rq w wr (i * 4) A cap rs G))
  case atStart => exact ⟨0, none, 0, rfl, rfl, by omega, Lib.hid ⟨[], ⟨Below.refl _ _, World.ownsRow_nil _ _ _ _, rfl, fun r hr => (by cases hr), fun r hr => (by cases hr), rfl⟩⟩⟩
  case round =>
    obtain ⟨i, A, cap, rfl, rfl, hk, HR⟩ := hrel
    by_cases hlt : i < m
    · have ek : decide ((i : Int) < (m : Int)) = true := by simp; omega
      have ek2 : decide (i < m) = true := by simpa using hlt
      have HLT := Lib.hid (And.intro hk hlt)
      have him : (i : Int) < (m : Int) := by omega
      clear hk hlt
      go_wp2_with fail
      go_loopg [16, 3] 4 (fun g s16 s3 wr => ∃ (k : Nat) (A : Option Addr) (cap : Nat), s16 = .int .i64 k ∧ s3 = .slice A (i * 4 + k) cap ∧ k + g = 4 ∧ Hid (∃ rs, Rq w wr (i * 4 + k) A cap rs G))
      case atStart => exact ⟨0, A, cap, rfl, rfl, by omega, HR⟩
      case round =>
        clear HR
        obtain ⟨k, A, cap, rfl, rfl, hk, HR⟩ := hrel
        obtain ⟨rs, hr⟩ := HR.out
        have HQ := Lib.hid hr
        clear hr HR
        by_cases hlt : k < 4
        · have ej : decide ((k : Int) < 4) = true := by simp; omega
          have HLT2 := Lib.hid (And.intro hk hlt)
          have hk4 : (k : Int) < 4 := by omega
          have HLN := Lib.hid (flane_ok (H.out.ext HQ.out.be) (i := i) (k := k) (by rw [HM.out]; exact him) hlt)
          clear hk hlt
          go_wp2_with fail
          refine HLN.out.mono ?_
          rintro e w2 ⟨b, v', rfl, hnv, hb1, hb2, hb⟩
          have HV := Lib.hid (And.intro hnv (And.intro hb1 (And.intro hb2 hb)))
          have HO2 := Lib.hid (show (w2.alloc (.cells #[(Value.func (.func 111) #[] #[.pointer (some ⟨b, 0, none⟩)])] 79)).ownsRow w.heap.size 79 1 (.slice A (i * 4 + k) cap) (i * 4 + k) (rs.map Rw.fn) from row_keep HQ.out.own (fun g hg => (Below.heap_alloc _ _ _ (Nat.lt_of_lt_of_le (HQ.out.own.lt g hg).2 hb.size)).trans (hb.block g (HQ.out.own.lt g hg).2)))
          have HNw := Lib.hid (show ∀ j u, [(Value.func (.func 111) #[] #[.pointer (some ⟨b, 0, none⟩)])][j]? = some u → (w2.alloc (.cells #[(Value.func (.func 111) #[] #[.pointer (some ⟨b, 0, none⟩)])] 79)).cell? ((⟨w2.heap.size, 0, none⟩ : Addr).add j) = some u from fun j u hu => by
            rw [Addr.add_lit, Nat.zero_add]
            unfold World.cell?
            rw [show (w2.alloc (.cells #[(Value.func (.func 111) #[] #[.pointer (some ⟨b, 0, none⟩)])] 79)).heap[w2.heap.size]? = _ from alNew rfl]
            simpa using hu)
          have hsz : w.heap.size ≤ w2.heap.size := Nat.le_trans HQ.out.be.size hb.size
          have him4 : i * 4 + k ≤ 16 := by omega
          clear hnv hb1 hb2 hb
          unfold Rw.fn
          go_wp2_with (at_builtin; (refine wpList_append_full _ rfl (.tmp 19) (.tmp 24) 166 rfl w.heap.size 79 i0 .nilFunc 1 8 Tryd.underlying166 hi hz0 hz1 hz2 rfl (by decide) (.slice A (i * 4 + k) cap) (i * 4 + k) (rs.map Rw.fn) rfl HO2.out (some ⟨w2.heap.size, 0, none⟩) 1 1 [(Value.func (.func 111) #[] #[.pointer (some ⟨b, 0, none⟩)])] rfl (fun e => by cases e) rfl (fun ad e => by cases e; exact HNw.out) (by intro u hu; simp at hu; subst hu; rfl) (by unfold maxLen; omega) (by omega) (by simp; omega) ?_); intro A4 c4 w4 h4 ho hg hf; have HAP := Lib.hid (And.intro ho (And.intro hg hf)); clear h4 ho hg hf)
          have HQ2 := Lib.hid (HQ.out.next (r := ⟨b, v', G (i * 4 + k)⟩) HV.out.2.2.2 HV.out.1 HV.out.2.1 HV.out.2.2.1 rfl HAP.out.1 (ext_alloc _ (Below.refl _ _)) HAP.out.2.1 HAP.out.2.2)
          go_wp2_with fail
          go_roundg (4 - (k + 1))
          case measure => have := HLT2.out; omega
          case rel => exact ⟨k + 1, _, _, by go_num, rfl, by have := HLT2.out; omega, Lib.hid ⟨_, HQ2.out⟩⟩
        · have ej : decide ((k : Int) < 4) = false := by simp; omega
          obtain rfl : k = 4 := by omega
          clear hk hlt
          go_wp2_with fail
          go_roundg (m - (i + 1))
          case measure => have := HLT.out; omega
          case rel => exact ⟨i + 1, A, cap, by go_num, by rw [show (i + 1) * 4 = i * 4 + 4 by omega], by have := HLT.out; omega, Lib.hid ⟨rs, by rw [show (i + 1) * 4 = i * 4 + 4 by omega]; exact HQ.out⟩⟩
    · have ek : decide ((i : Int) < (m : Int)) = false := by simp; omega
      have ek2 : decide (i < m) = false := by simpa using hlt
      obtain rfl : i = m := by omega
      obtain ⟨rs, hq⟩ := HR.out
      have HQ := Lib.hid hq
      clear hk hlt hq HR
      go_wp2_with fail
      refine (valuesS_any _ _ _ _).mono ?_
      rintro e w2 ⟨rfl, hw⟩
      have HW := Lib.hid hw
      clear hw
      go_wp2_with fail
      go_ret
      have hs := HQ.out.be.size
      have hb9 : Below wr.heap.size wr w2 := by rw [HW.out]; exact ext_alloc _ (Below.refl _ _)
      have hq2 := HQ.out.ext hb9
      refine ⟨_, _, rs, rfl, ⟨⟨by rw [HW.out]; exact alNew rfl, row_mono (by rw [hq2.len]; exact hq2.own) (Nat.zero_le _)⟩, fun r hr => (hq2.row r hr).1⟩, by rw [hq2.xs, HNM.out.1], fun k hk => ?_, hq2.be⟩
      rcases hk with rfl | hk | ⟨r, hr, rfl | hk⟩
      · exact hs
      · exact (hq2.own.lt k hk).1
      · exact (hq2.row r hr).2.1
      · exact (hq2.row r hr).2.2 k hk
end

end Go.Proofs.YtkfnjpmigifomaaDoor
