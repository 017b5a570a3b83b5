/- What this text holds: the walk of the law FabricOnce. Condition: the tables of kinds and of limits hold what their initialisers lay. -/
import Derived.Test.YtkfnjpmigifomaaDoorLw05
import Derived.Sort.LoopGhostIn
import Derived.Laws.EntriesVeiled
namespace Go.Proofs.YtkfnjpmigifomaaDoor
open Go.RowKit Go.Shelf
attribute [local go_sem] Oper.semAt_some

theorem cfg5_at {W : World} {B : Nat} {c : Cfg} {t : TypeId} {fr : Nat × Nat} (h : W.heap[B]? = some (.cells #[.int .i64 c.co, .int .i64 c.gr, .int .i64 c.se, .int .i64 c.wa, .int .i64 c.de, .int .i64 c.en, .int .i64 c.ba] t fr)) : W.cell? ⟨B, 0, none⟩ = some (.int .i64 c.co) ∧ W.cell? ⟨B, 1, none⟩ = some (.int .i64 c.gr) ∧ W.cell? ⟨B, 2, none⟩ = some (.int .i64 c.se) ∧ W.cell? ⟨B, 3, none⟩ = some (.int .i64 c.wa) ∧ W.cell? ⟨B, 4, none⟩ = some (.int .i64 c.de) ∧ W.cell? ⟨B, 5, none⟩ = some (.int .i64 c.en) ∧ W.cell? ⟨B, 6, none⟩ = some (.int .i64 c.ba) := by
  simp [World.cell?, h]
set_option maxRecDepth 100000 in
theorem once5_no {w : World} {c : Cfg} {A : Option Addr} {l : List Op5} {cap : Nat} (hP : SlP w A l) (hm : l.length ≤ maxLen) (hL : Lims w) (hK : Kinds w) (h : ¬ c.ok ∨ few5 l = false) :
    Calls Tryd.prog 6 #[.agg #[.int .i64 c.co, .int .i64 c.gr, .int .i64 c.se, .int .i64 c.wa, .int .i64 c.de, .int .i64 c.en, .int .i64 c.ba], .slice A l.length cap] w fun e w' => e = .returned (.bool true) ∧ Below w.heap.size w w' := by
  have HL := Lib.hid hL
  have HK := Lib.hid hK
  by_cases hc : c.ok
  case neg =>
    clear h hL hK hP hm
    go_enter Tryd.func6, Tryd.ntmps6
    go_wp2_with fail
    refine (may01_no hc _).mono ?_
    rintro e w1 ⟨rfl, hb⟩
    have HB := Lib.hid (ext_trans (ext_alloc _ (ext_alloc _ (Below.refl _ _))) hb)
    have HY := Lib.hid ((hb.block (w.heap.size + 1) (by simp)).trans (alNew (by simp)))
    clear hb
    go_wp2_with fail
    refine (awake05 _ (HL.out.ext HB.out) (HK.out.ext HB.out)).mono ?_
    rintro e w2 ⟨rfl, hb⟩
    have hy := (hb.block _ (lt_of HY.out)).trans HY.out
    have y0 := cell_of hy
    have yf := free_of hy
    have yl := lt_of hy
    have HY2 := Lib.hid (set_of (u := .bool true) hy)
    have HB2 := Lib.hid (ext_trans HB.out hb)
    clear hb hy
    go_wp2_with fail
    have y1 := cell_of HY2.out
    refine bodyPost_ret (v := .bool true) (by simp [results, Tryd.f6, go_sem, y1]) rfl ?_
    exact ⟨rfl, HB2.out.setCell (p := ⟨w.heap.size + 1, 0, none⟩) (by show w.heap.size ≤ w.heap.size + 1; omega) _⟩
  have h60 : few5 l = false := h.elim (fun h => absurd hc h) id
  have HP := Lib.hid hP
  have HM := Lib.hid hm
  have HF := Lib.hid h60
  clear h hL hK hP hm h60
  go_enter Tryd.func6, Tryd.ntmps6
  go_wp2_with fail
  refine (may01_yes hc _).mono ?_
  rintro e w1 ⟨rfl, hb⟩
  have HB := Lib.hid (ext_trans (ext_alloc _ (ext_alloc _ (Below.refl _ _))) hb)
  have HY := Lib.hid ((hb.block (w.heap.size + 1) (by simp)).trans (alNew (by simp)))
  have HW := Lib.hid (few5_any A cap l w1 (HP.out.ext HB.out) HM.out)
  rw [HF.out] at HW
  clear hb
  go_wp2_with fail
  refine HW.out.mono ?_
  rintro e w1' ⟨rfl, hw⟩
  rw [hw]
  clear hw
  go_wp2_with fail
  refine (awake05 _ (HL.out.ext HB.out) (HK.out.ext HB.out)).mono ?_
  rintro e w2 ⟨rfl, hb⟩
  have hy := (hb.block _ (lt_of HY.out)).trans HY.out
  have y0 := cell_of hy
  have yf := free_of hy
  have yl := lt_of hy
  have HY2 := Lib.hid (set_of (u := .bool true) hy)
  have HB2 := Lib.hid (ext_trans HB.out hb)
  clear hb hy
  go_wp2_with fail
  have y1 := cell_of HY2.out
  refine bodyPost_ret (v := .bool true) (by simp [results, Tryd.f6, go_sem, y1]) rfl ?_
  exact ⟨rfl, HB2.out.setCell (p := ⟨w.heap.size + 1, 0, none⟩) (by show w.heap.size ≤ w.heap.size + 1; omega) _⟩

set_option maxRecDepth 100000 in
set_option maxHeartbeats 16000000 in
theorem once5_yes {w : World} {c : Cfg} {A : Option Addr} {l : List Op5} {cap : Nat} (hP : SlP w A l) (hm : l.length ≤ maxLen) (hL : Lims w) (hK : Kinds w) (hc : c.ok) (hf : few5 l = true) :
    Calls Tryd.prog 6 #[.agg #[.int .i64 c.co, .int .i64 c.gr, .int .i64 c.se, .int .i64 c.wa, .int .i64 c.de, .int .i64 c.en, .int .i64 c.ba], .slice A l.length cap] w fun e w' => e = .returned (.bool true) ∧ Below w.heap.size w w' := by
  have H := Lib.hid hP
  have HM := Lib.hid hm
  have HL := Lib.hid hL
  have HK := Lib.hid hK
  have HC := Lib.hid hc
  have HF := Lib.hid hf
  have HFL := Lib.hid (few5_len hf)
  clear hP hm hL hK hc hf
  refine (callsIn_wide (n := 6)).1 ?_
  have hro : Fence.wide.round = none := rfl
  refine callsIn_of_wp_marks Tryd.func6 rfl trivial ?_ hro
  simp only [Tryd.ntmps6, List.size_toArray, List.length_cons, List.length_nil, Nat.reduceAdd, Nat.reduceSub, Array.replicate_succ, Array.replicate_zero, List.push_toArray, List.append_toArray, List.nil_append, List.cons_append]
  refine wpIn_wide.2 ?_
  go_wp2_with fail
  refine (may01_yes HC.out _).mono ?_
  rintro e w1 ⟨rfl, hb⟩
  have HB1 := Lib.hid (ext_trans (ext_alloc _ (ext_alloc _ (Below.refl _ _))) hb)
  have hx := (hb.block w.heap.size (by simp; omega)).trans (alOld (alNew rfl))
  have HX1 := Lib.hid hx
  have HY1 := Lib.hid ((hb.block (w.heap.size + 1) (by simp)).trans (alNew (by simp)))
  have HFW := Lib.hid (few5_any A cap l w1 (H.out.ext HB1.out) HM.out)
  rw [HF.out] at HFW
  obtain ⟨k0, k1, k2, k3, k4, k5, k6⟩ := cfg5_at hx
  have xl := lt_of hx
  clear hb hx
  go_wp2_with fail
  refine HFW.out.mono ?_
  rintro e w1' ⟨rfl, hw⟩
  rw [hw]
  clear hw HFW
  go_wp2_with fail
  refine (fnew_ok c HC.out _ (HL.out.ext HB1.out)).mono ?_
  rintro e w2 ⟨p, n, P, rfl, hfa, hb⟩
  have HO2 := Lib.hid (And.intro hfa hb)
  clear hfa hb k0 k1 k2 k3 k4 k5 k6 xl
  go_wp2_with fail
  obtain ⟨W3, hW3⟩ : ∃ W3, W3 = w2.alloc (.cells #[.slice none 0 0] 69) := ⟨_, rfl⟩
  obtain ⟨T, hT⟩ : ∃ T, T = w2.heap.size := ⟨_, rfl⟩
  obtain ⟨R, hR⟩ : ∃ R, R = w.heap.size + 1 := ⟨_, rfl⟩
  obtain ⟨B, hB⟩ : ∃ B, B = w1.heap.size := ⟨_, rfl⟩
  rw [← hW3, ← hT, ← hR]
  have HO : Hid (Ob w W3 B p R T c n P (fun _ => .slice none 0 0) (fun _ => []) (.slice none 0 0) [] ∧ W3.heap.size = T + 1) := by
    obtain ⟨hfa, hb⟩ := HO2.out
    rw [← hB] at hfa
    have hb3 : Below w2.heap.size w2 W3 := by rw [hW3]; exact ext_alloc _ (Below.refl _ _)
    have hpl := hfa.lt
    have hs1 := HB1.out.size
    have hs2 := hb.size
    have hyl := lt_of HY1.out
    refine Lib.hid ⟨⟨⟨hfa.ext hb3, ext_trans (ext_trans HB1.out hb) hb3, by omega, by have := hb3.size; omega⟩, ?_, by rw [hW3, hT]; exact alNew rfl, World.ownsRow_nil _ _ _ _, ⟨by omega, by omega⟩, ⟨by omega, by omega⟩, fun hs => ?_, fun g hg => by cases hg⟩, by rw [hW3, hT]; simp⟩
    · rw [hR]
      exact (hb3.block _ (by omega)).trans ((hb.block _ hyl).trans HY1.out)
    · have := (hfa.fs hs).2.1
      omega
  have HHN : Hid ((n : Int) = 4 * c.co) := Lib.hid HO2.out.1.hn
  have HRW : Hid (w.heap.size ≤ R) := Lib.hid (by omega)
  clear hW3 hT hR hB HO2 HB1 HX1 HY1
  go_loopg [8] l.length (fun g s8 wr => ∃ k : Nat, s8 = .int .i64 k ∧ k + g = l.length ∧ Hid (∃ V G tv ths, Ob w wr B p R T c n P V G tv ths ∧ Inv n G ths))
  case atStart => exact ⟨0, rfl, by omega, Lib.hid ⟨_, _, _, _, HO.out.1, Inv.nil n⟩⟩
  case round =>
    clear HO
    obtain ⟨k, rfl, hk, HR⟩ := hrel
    by_cases hlt : k < l.length
    · have ek : decide ((k : Int) < (l.length : Int)) = true := by simp; omega
      have ek2 : decide (k < l.length) = true := by simpa using hlt
      obtain ⟨V, G, tv, ths, hob, hinv⟩ := HR.out
      obtain ⟨b, off, rfl, hbl, hcs⟩ := H.out.cells (by omega)
      obtain ⟨o, ho⟩ : ∃ o, o = atP l k := ⟨_, rfl⟩
      have hcx : ∀ j u, o.cells[j]? = some u → wr.cell? ⟨b, off + k * 5 + j, none⟩ = some u := fun j u hu => (hob.fw.be.cell (p := ⟨b, off + k * 5 + j, none⟩) hbl).trans (hcs k hlt j u (ho ▸ hu))
      have y0 : wr.cell? ⟨b, off + k * 5, none⟩ = _ := hcx 0 _ rfl
      have y1 := hcx 1 _ rfl
      have y2 := hcx 2 _ rfl
      have y3 := hcx 3 _ rfl
      have y4 := hcx 4 _ rfl
      have hnt := H.out.notes k hlt
      have hbk := fun h0 => H.out.blk hlt h0
      have h20 := HFL.out.2 k hlt
      have hkl : (k : Int) < (l.length : Int) := by omega
      have h40 := HFL.out.1
      rw [← ho] at hnt hbk h20
      have HNT := Lib.hid hnt
      have HBK := Lib.hid hbk
      have HLT := Lib.hid (And.intro hk hlt)
      have HOB := Lib.hid hob
      have HINV := Lib.hid hinv
      have hth : ths.length ≤ 256 := by
        rw [hinv.len]
        have := flatten_le 16 ((List.range n).map G) (fun x hx => by obtain ⟨i, h1, rfl⟩ := List.mem_map.1 hx; have := hob.fw.fa.fit i (List.mem_range.1 h1); have := hob.fw.fa.n16; omega)
        have h3 := hob.fw.fa.n16
        simp at this
        unfold flatG
        simp
        omega
      obtain ⟨O, hO⟩ : ∃ O, O = wr.heap.size := ⟨_, rfl⟩
      clear hcx hcs hk hlt hob hinv hnt hbk ho HR
      by_cases ha : o.a = 0
      · have ea : (o.a == 0) = true := by simpa using ha
        obtain ⟨i0, hi, hz0, hz1, hz2⟩ := info_parts info_note
        clear ha
        have hb5 : Below wr.heap.size wr (wr.alloc (.cells #[.int .i64 o.a, .int .i64 o.co, .int .i64 o.la, .int .i64 o.wh, .slice o.A o.ys.length o.c] 71)) := ext_alloc _ (Below.refl _ _)
        have hbo : (wr.alloc (.cells #[.int .i64 o.a, .int .i64 o.co, .int .i64 o.la, .int .i64 o.wh, .slice o.A o.ys.length o.c] 71)).heap[O]? = some (.cells #[.int .i64 o.a, .int .i64 o.co, .int .i64 o.la, .int .i64 o.wh, .slice o.A o.ys.length o.c] 71 (0, 0)) := by rw [hO]; exact alNew rfl
        have HP5 := Lib.hid (And.intro hb5 hbo)
        have HOO := Lib.hid hO
        have HNF : Hid (∀ a, o.A = some a → 0 < o.ys.length → ¬ FS n P V a.block) := Lib.hid (fun a h1 h2 hs => by
          have h3 := HBK.out h2 a h1
          have h4 := (HOB.out.fw.fa.fs hs).1
          have h5 := HOB.out.fw.hB
          omega)
        clear hb5 hbo
        go_wp2_with fail
        rw [← hO]
        clear hO
        obtain ⟨w5, hw5⟩ : ∃ w5, w5 = wr.alloc (.cells #[.int .i64 o.a, .int .i64 o.co, .int .i64 o.la, .int .i64 o.wh, .slice o.A o.ys.length o.c] 71) := ⟨_, rfl⟩
        rw [← hw5] at HP5 ⊢
        clear hw5 y0 y1 y2 y3 y4
        have HOB5 := Lib.hid (HOB.out.ext HP5.out.1)
        have HSL5 := Lib.hid (HNT.out.1.ext HOB5.out.fw.be)
        have o4 : w5.cell? ⟨O, 4, none⟩ = some (.slice o.A o.ys.length o.c) := by simp [World.cell?, HP5.out.2]
        have ol := lt_of HP5.out.2
        by_cases h0 : sendR c n G o.ys = 0
        · have HSD := Lib.hid (HOB5.out.fw.send_ok HL.out HK.out o.A o.c o.ys HSL5.out HNF.out h20 h0)
          have HGD := Lib.hid (sendR_all h0)
          clear h0
          go_wp2_with fail
          refine HSD.out.mono ?_
          rintro e w6 ⟨rfl, V', hfw, hft, hnw⟩
          have HOB6 := Lib.hid (HOB5.out.turn hfw hft hnw)
          have o4' : w6.cell? ⟨O, 4, none⟩ = some (.slice o.A o.ys.length o.c) := (World.cell?_of_block (a := ⟨O, 4, none⟩) (hft.block O ol (fun hs => by have := (HOB.out.fw.fa.fs hs).2.1; have := HOO.out; omega))).trans o4
          have ol' : O < w6.heap.size := Nat.lt_of_lt_of_le ol hft.size
          have t0 := cell_of HOB6.out.bx
          have tf := free_of HOB6.out.bx
          have tl := lt_of HOB6.out.bx
          have HZ := Lib.hid (HNT.out.1.none0 HNT.out.2)
          have HS6 := Lib.hid (HNT.out.1.ext HOB6.out.fw.be)
          have hB6 := HOB6.out.fw.lo
          clear hfw hft hnw o4 ol HSD HSL5
          go_wp2_with (at_builtin; refine wpList_append_full _ rfl _ _ 69 rfl B 74 i0 Nt.zero.val 9 72 Tryd.underlying69 hi hz0 hz1 hz2 rfl (by decide) _ _ (flatN ths) rfl HOB6.out.row o.A o.ys.length _ (flatN o.ys) rfl HZ.out (flatN_len o.ys) HS6.out.full (flatN_one o.ys) (by unfold maxLen; omega) (by omega) (by first | assumption | (simp; done) | (simp; omega) | omega) ?_)
          intro A3 c3 w7 h3 ho hg hf3
          have HOB7 := Lib.hid (HOB6.out.put (ths' := ths ++ o.ys) hg (by rw [flatN_app, List.length_append]; exact ho) (fun g hg => (hf3 g hg).elim (HOB6.out.ow g) HOB6.out.new))
          have hT7 : w7.heap[T]? = some (.cells #[tv] 69 (0, 0)) := (hg.block T tl (fun e => (HOB6.out.ow T e.symm).2.1 rfl)).trans HOB6.out.bx
          have t0' := cell_of hT7
          have tf' := free_of hT7
          have tl' := lt_of hT7
          clear ho hg h3 hf3 hT7 t0 tf
          go_wp2_with fail
          go_roundg (l.length - (k + 1))
          case measure => have := HLT.out; omega
          case rel => exact ⟨k + 1, by go_num, by have := HLT.out; omega, Lib.hid ⟨V', _, _, _, HOB7.out, Inv.addL HHN.out o.ys _ _ HINV.out HGD.out⟩⟩
        · obtain ⟨r, hr⟩ : ∃ r, sendR c n G o.ys = r := ⟨_, rfl⟩
          have er : (r == 0) = false := by rw [← hr]; simpa using h0
          have HSD := Lib.hid (HOB5.out.fw.send_no HL.out HK.out o.A o.c o.ys HSL5.out HNF.out h20 r hr (hr ▸ h0))
          clear h0 hr
          go_wp2_with fail
          refine HSD.out.mono ?_
          rintro e w6 ⟨rfl, hb6⟩
          have HOB6 := Lib.hid (HOB5.out.ext hb6)
          clear hb6
          go_wp2_with fail
          go_roundg (l.length - (k + 1))
          case measure => have := HLT.out; omega
          case rel => exact ⟨k + 1, by go_num, by have := HLT.out; omega, Lib.hid ⟨V, _, _, _, HOB6.out, HINV.out⟩⟩
      · have ea : (o.a == 0) = false := by simpa using ha
        clear ha
        have hb5 : Below wr.heap.size wr (wr.alloc (.cells #[.int .i64 o.a, .int .i64 o.co, .int .i64 o.la, .int .i64 o.wh, .slice o.A o.ys.length o.c] 71)) := ext_alloc _ (Below.refl _ _)
        have hbo : (wr.alloc (.cells #[.int .i64 o.a, .int .i64 o.co, .int .i64 o.la, .int .i64 o.wh, .slice o.A o.ys.length o.c] 71)).heap[O]? = some (.cells #[.int .i64 o.a, .int .i64 o.co, .int .i64 o.la, .int .i64 o.wh, .slice o.A o.ys.length o.c] 71 (0, 0)) := by rw [hO]; exact alNew rfl
        have HP5 := Lib.hid (And.intro hb5 hbo)
        have HOO := Lib.hid hO
        clear hb5 hbo
        go_wp2_with fail
        rw [← hO]
        clear hO
        obtain ⟨w5, hw5⟩ : ∃ w5, w5 = wr.alloc (.cells #[.int .i64 o.a, .int .i64 o.co, .int .i64 o.la, .int .i64 o.wh, .slice o.A o.ys.length o.c] 71) := ⟨_, rfl⟩
        rw [← hw5] at HP5 ⊢
        clear hw5 y0 y1 y2 y3 y4
        have HOB5 := Lib.hid (HOB.out.ext HP5.out.1)
        by_cases hin : (0 ≤ o.co ∧ o.co < c.co) ∧ 0 ≤ o.la ∧ o.la < 4
        case neg =>
          have HTK := Lib.hid (ftake_no HOB5.out.fw.fa o.co o.la o.wh (by omega))
          clear hin
          unfold Nt.val Nt.zero at HTK
          go_wp2_with fail
          refine HTK.out.mono ?_
          rintro e w6 ⟨rfl, hb6⟩
          have HOB6 := Lib.hid ((HOB5.out.ext hb6).ext (ext_alloc (.cells #[.int .i64 0, .int .i64 0, .int .i64 0, .int .i64 0, .int .i64 0, .int .i64 0, .int .i64 0, .bool false, .int .i64 0] 74) (Below.refl _ _)))
          clear hb6
          go_wp2_with fail
          go_roundg (l.length - (k + 1))
          case measure => have := HLT.out; omega
          case rel => exact ⟨k + 1, by go_num, by have := HLT.out; omega, Lib.hid ⟨V, _, _, _, HOB6.out, HINV.out⟩⟩
        obtain ⟨i, hi⟩ : ∃ i : Nat, o.co = i := ⟨o.co.toNat, by omega⟩
        obtain ⟨j, hj⟩ : ∃ j : Nat, o.la = j := ⟨o.la.toNat, by omega⟩
        have hic : (i : Int) < c.co := by omega
        have hj4 : j < 4 := by omega
        have HIJ := Lib.hid (And.intro hic hj4)
        rw [hi, hj] at HP5 ⊢
        clear hin
        by_cases hg0 : G (i * 4 + j) = []
        case pos =>
          have HTK := Lib.hid (ftake_none HOB5.out.fw.fa hic hj4 o.wh hg0)
          clear hg0 hic hj4
          unfold Nt.val Nt.zero at HTK
          go_wp2_with fail
          refine HTK.out.mono ?_
          rintro e w6 ⟨rfl, hb6⟩
          have HOB6 := Lib.hid ((HOB5.out.ext hb6).ext (ext_alloc (.cells #[.int .i64 0, .int .i64 0, .int .i64 0, .int .i64 0, .int .i64 0, .int .i64 0, .int .i64 0, .bool false, .int .i64 0] 74) (Below.refl _ _)))
          clear hb6
          go_wp2_with fail
          go_roundg (l.length - (k + 1))
          case measure => have := HLT.out; omega
          case rel => exact ⟨k + 1, by go_num, by have := HLT.out; omega, Lib.hid ⟨V, _, _, _, HOB6.out, HINV.out⟩⟩
        have hglen : 0 < (G (i * 4 + j)).length := List.length_pos_iff.2 hg0
        obtain ⟨q, hq⟩ : ∃ q, q = which5 o.wh (G (i * 4 + j)).length := ⟨_, rfl⟩
        have hwh := which5_of o.wh _ hglen
        rw [← hq] at hwh
        have hixn : i * 4 + j < n := by have := HHN.out; omega
        obtain ⟨e1, e2, e3⟩ := HINV.out.at_ hj4 hixn hwh.1
        obtain ⟨M, hM1, hM2⟩ := HINV.out.there hixn hwh.1
        have HTK := Lib.hid (ftake_ok HOB5.out.fw.fa HOB5.out.fw.lo hic hj4 o.wh hwh.1 hwh.2)
        have HQ := Lib.hid (And.intro hixn hwh.1)
        obtain ⟨y, hy⟩ : ∃ y, y = atN (G (i * 4 + j)) q := ⟨_, rfl⟩
        rw [← hy] at HTK e1 e2 e3 hM2
        have HYG := Lib.hid hy
        have HM5 := Lib.hid (And.intro hM1 hM2)
        have HLR : Hid (laneR y.k = j) := Lib.hid (by rw [laneR_of e1, e3])
        clear hglen hq hwh e1 e3 hg0 hic hj4 hixn hM1 hM2 hy
        obtain ⟨yk, yc, yl, yw, ys, ya, yb, yd, yn⟩ := y
        dsimp only at e2
        subst e2
        unfold Nt.val at HTK
        dsimp only at HTK
        go_wp2_with fail
        refine HTK.out.mono ?_
        rintro e w6 ⟨rfl, v', hfa, hft, hnw⟩
        have hob6 := HOB5.out.turn (HOB5.out.fw.go hfa hft) hft hnw
        have hbo6 := (hft.block O (lt_of HP5.out.2) (fun hs => by have := (HOB.out.fw.fa.fs hs).2.1; have := HOO.out; omega)).trans HP5.out.2
        have HOB6 := Lib.hid hob6
        have HBO6 := Lib.hid hbo6
        clear hfa hft hnw hob6 hbo6
        obtain ⟨X, hX⟩ : ∃ X, X = w6.heap.size := ⟨_, rfl⟩
        have hb7 : Below w6.heap.size w6 (w6.alloc (.cells #[.int .i64 yk, .int .i64 i, .int .i64 yl, .int .i64 yw, .int .i64 ys, .int .i64 ya, .int .i64 yb, .bool yd, .int .i64 yn] 74)) := ext_alloc _ (Below.refl _ _)
        have hbx7 : BxN (w6.alloc (.cells #[.int .i64 yk, .int .i64 i, .int .i64 yl, .int .i64 yw, .int .i64 ys, .int .i64 ya, .int .i64 yb, .bool yd, .int .i64 yn] 74)) X ⟨yk, (i : Int), yl, yw, ys, ya, yb, yd, yn⟩ := by rw [hX]; exact alNew rfl
        have HB7 := Lib.hid (And.intro hb7 hbx7)
        clear hb7 hbx7
        go_wp2_with fail
        rw [← hX]
        obtain ⟨w7, hw7⟩ : ∃ w7, w7 = w6.alloc (.cells #[.int .i64 yk, .int .i64 i, .int .i64 yl, .int .i64 yw, .int .i64 ys, .int .i64 ya, .int .i64 yb, .bool yd, .int .i64 yn] 74) := ⟨_, rfl⟩
        rw [← hw7] at HB7 ⊢
        clear hw7 hX
        have HOB7 := Lib.hid (HOB6.out.ext HB7.out.1)
        have hbo7 := (HB7.out.1.block _ (lt_of HBO6.out)).trans HBO6.out
        have o1 : w7.cell? ⟨O, 1, none⟩ = some (.int .i64 i) := by simp [World.cell?, hbo7]
        have o2 : w7.cell? ⟨O, 2, none⟩ = some (.int .i64 j) := by simp [World.cell?, hbo7]
        have ol := lt_of hbo7
        obtain ⟨z0, z1, z2, z3, z4, z5, z6, z7, z8⟩ := HB7.out.2.cell
        have zl := HB7.out.2.lt
        have HLC := Lib.hid (fun (W : World) (_ : Below w7.heap.size w7 W) => show Calls Tryd.prog 34 #[.int .i64 yk] W (fun e w' => e = .returned (.int .i64 j) ∧ Below W.heap.size W w') by
          have := rlane_any yk W
          rw [show laneR yk = j from HLR.out] at this
          exact this)
        clear hbo7
        refine region_past (by kernel_rfl) (by kernel_rfl) ?_; (repeat (go_big_quiet_step ((go_at_call 34; exact calls_past (HLC.out _ (Past.below _)))))); refine wpQuiet_nil ?_; rintro _ ⟨pz, rfl⟩
        clear z0 z1 z2 z3 z4 z5 z6 z7 z8 zl o1 o2 ol
        have HPZ := Lib.hid (ext_past pz (Below.refl _ _))
        go_wp2_with fail
        go_loopg [12, 13] ths.length (fun g s12 s13 wr => ∃ (k' : Nat) (a : Int), s12 = .int .i64 a ∧ s13 = .int .i64 k' ∧ k' + g = ths.length ∧ Hid (AtK ths ⟨yk, (i : Int), yl, yw, ys, ya, yb, yd, yn⟩ k' a ∧ Below w7.heap.size w7 wr))
        case atStart => exact ⟨0, -1, rfl, rfl, by omega, Lib.hid ⟨AtK.zero _ _, HPZ.out⟩⟩
        case round =>
          clear HPZ
          obtain ⟨k', a, rfl, rfl, hk', HQ2⟩ := hrel
          have hob8 := HOB7.out.ext HQ2.out.2
          obtain ⟨TA, tcap, htv, hsl, htc, htn, hta⟩ := rowN_val hob8.row
          have t0 := cell_of hob8.bx
          rw [htv] at t0
          have tl := lt_of hob8.bx
          have tf := free_of hob8.bx
          have hbx8 : BxN wr X ⟨yk, (i : Int), yl, yw, ys, ya, yb, yd, yn⟩ := (HQ2.out.2.block _ HB7.out.2.lt).trans HB7.out.2
          obtain ⟨z0, z1, z2, z3, z4, z5, z6, z7, z8⟩ := hbx8.cell
          have zl := hbx8.lt
          have HOB8 := Lib.hid hob8
          have HTV := Lib.hid htv
          have HSL := Lib.hid hsl
          have HTA := Lib.hid (And.intro htc (And.intro htn hta))
          clear hob8 htv hsl htn hta hbx8
          dsimp only at z0 z1 z2 z3 z4 z5 z6 z7 z8
          by_cases hkl2 : k' < ths.length
          · have ek3 : decide ((k' : Int) < (ths.length : Int)) = true := by simp; omega
            have ek4 : decide (k' < ths.length) = true := by simpa using hkl2
            have hkl3 : (k' : Int) < (ths.length : Int) := by omega
            have HLT2 := Lib.hid (And.intro hk' hkl2)
            obtain ⟨tb, toff, rfl, htb, hcs⟩ := HSL.out (by omega)
            obtain ⟨x, hxx⟩ : ∃ x, x = atN ths k' := ⟨_, rfl⟩
            have hcx : ∀ jj u, x.cells[jj]? = some u → wr.cell? ⟨tb, toff + k' * 9 + jj, none⟩ = some u := fun jj u hu => hcs k' hkl2 jj u (hxx ▸ hu)
            have HXX := Lib.hid hxx
            clear hcs hxx hk' hkl2
            rcases HQ2.out.1 with ⟨rfl, hno⟩ | ⟨m, rfl, hm, hmy⟩
            · have x0 : wr.cell? ⟨tb, toff + k' * 9, none⟩ = _ := hcx 0 _ rfl
              have x1 := hcx 1 _ rfl
              have x2 := hcx 2 _ rfl
              have x3 := hcx 3 _ rfl
              have x4 := hcx 4 _ rfl
              have x5 := hcx 5 _ rfl
              have x6 := hcx 6 _ rfl
              have x7 := hcx 7 _ rfl
              have x8 := hcx 8 _ rfl
              have HNO := Lib.hid hno
              clear hcx hno
              by_cases hxy : x = ⟨yk, (i : Int), yl, yw, ys, ya, yb, yd, yn⟩
              · have hq : ∀ wx, (binOp .eql 74 x.out (Nt.out ⟨yk, (i : Int), yl, yw, ys, ya, yb, yd, yn⟩)).run Tryd.prog wx = .ok (.bool true) wx := fun wx => by rw [eqN, hxy]; simp
                have HXY := Lib.hid hxy
                simp only [Nt.out] at hq
                clear hxy
                go_wp2_with fail
                refine region_past (by kernel_rfl) (by kernel_rfl) ?_; (repeat (go_big_quiet_step (fail))); refine wpQuiet_nil ?_; rintro _ ⟨py, rfl⟩
                have HPY := Lib.hid (ext_past py HQ2.out.2)
                go_wp2_with fail
                go_roundg (ths.length - (k' + 1))
                case measure => have := HLT2.out; omega
                case rel => exact ⟨k' + 1, k', rfl, by go_num, by have := HLT2.out; omega, Lib.hid ⟨.inr ⟨k', rfl, by omega, by rw [← HXX.out]; exact HXY.out⟩, HPY.out⟩⟩
              · have hq : ∀ wx, (binOp .eql 74 x.out (Nt.out ⟨yk, (i : Int), yl, yw, ys, ya, yb, yd, yn⟩)).run Tryd.prog wx = .ok (.bool false) wx := fun wx => by rw [eqN]; simp [hxy]
                have HXY := Lib.hid hxy
                simp only [Nt.out] at hq
                clear hxy
                go_wp2_with fail
                refine region_past (by kernel_rfl) (by kernel_rfl) ?_; (repeat (go_big_quiet_step (fail))); refine wpQuiet_nil ?_; rintro _ ⟨py, rfl⟩
                have HPY := Lib.hid (ext_past py HQ2.out.2)
                go_wp2_with fail
                go_roundg (ths.length - (k' + 1))
                case measure => have := HLT2.out; omega
                case rel => exact ⟨k' + 1, -1, rfl, by go_num, by have := HLT2.out; omega, Lib.hid ⟨.inl ⟨rfl, fun jj hjj => by
                  by_cases e : jj = k'
                  · subst e; rw [← HXX.out]; exact HXY.out
                  · exact HNO.out jj (by omega)⟩, HPY.out⟩⟩
            · have em : decide ((m : Int) < 0) = false := by simp
              have HMY := Lib.hid (And.intro hm hmy)
              clear hcx hm hmy
              go_wp2_with fail
              refine region_past (by kernel_rfl) (by kernel_rfl) ?_; (repeat (go_big_quiet_step (fail))); refine wpQuiet_nil ?_; rintro _ ⟨py, rfl⟩
              have HPY := Lib.hid (ext_past py HQ2.out.2)
              go_wp2_with fail
              go_roundg (ths.length - (k' + 1))
              case measure => have := HLT2.out; omega
              case rel => exact ⟨k' + 1, m, rfl, by go_num, by have := HLT2.out; omega, Lib.hid ⟨.inr ⟨m, rfl, by have := HMY.out.1; omega, HMY.out.2⟩, HPY.out⟩⟩
          · have ek3 : decide ((k' : Int) < (ths.length : Int)) = false := by simp; omega
            have ek4 : decide (k' < ths.length) = false := by simpa using hkl2
            obtain rfl : k' = ths.length := by omega
            clear hkl2 hk'
            rcases HQ2.out.1 with ⟨rfl, hno⟩ | ⟨m, rfl, hm, hmy⟩
            · exact absurd HM5.out.2 (hno M HM5.out.1)
            have em : decide ((m : Int) < 0) = false := by simp
            obtain ⟨tb, toff, rfl, htb, hcs⟩ := HSL.out (by omega)
            have HMY := Lib.hid (And.intro hm hmy)
            clear hcs hmy z0 z1 z2 z3 z4 z5 z6 z7 z8 zl
            obtain ⟨i0, hi0, hz0, hz1, hz2⟩ := info_parts info_note
            go_wp2_with (at_builtin; refine wpList_append_full _ rfl _ _ 69 rfl wr.heap.size 74 i0 Nt.zero.val 9 72 Tryd.underlying69 hi0 hz0 hz1 hz2 rfl (by decide) (.slice none 0 0) 0 [] rfl (World.ownsRow_nil _ _ _ _) (some ⟨tb, toff, none⟩) m tcap (flatN (ths.take m)) rfl (fun e => by cases e) (by rw [flatN_len, List.length_take, Nat.min_eq_left (by omega)]) ?c1 (flatN_one _) ?c3 ?c4 ?c5 ?_)
            case c1 => exact (HSL.out.take m).full
            case c3 => unfold maxLen; omega
            case c4 => omega
            case c5 => exact Nat.le_refl _
            intro A3 c3 w8 h3 ho hg hf3
            have hBa : Hid (Below wr.heap.size wr w8) := Lib.hid ((Below.refl wr.heap.size wr).grown hg (Nat.le_refl _) (fun k e => by cases e))
            have t0' : w8.cell? ⟨T, 0, none⟩ = _ := (hBa.out.cell (p := ⟨T, 0, none⟩) tl).trans t0
            have tl' : T < w8.heap.size := Nat.lt_of_lt_of_le tl hBa.out.size
            have HS8 := Lib.hid (HSL.out.ext hBa.out)
            have HO := Lib.hid ho
            have HFM := Lib.hid (row_form ho)
            have h3' : Hid (A3 = none → m = 0 ∧ c3 = 0) := Lib.hid (fun e => by obtain ⟨A', c', h1, h2⟩ := HFM.out; cases h1; exact h2 e)
            have hn2 : Hid (m + (ths.length - (m + 1)) = (ths.eraseIdx m).length) := Lib.hid (by rw [List.length_eraseIdx_of_lt hm]; omega)
            have hfl : Hid (flatN (ths.take m) ++ flatN (ths.drop (m + 1)) = flatN (ths.eraseIdx m)) := Lib.hid (by rw [← flatN_app, List.eraseIdx_eq_take_drop_succ])
            have HDL : Hid ((flatN (ths.drop (m + 1))).length = (ths.length - (m + 1)) * 9) := Lib.hid (by rw [flatN_len, List.length_drop])
            have hs8 := hBa.out.size
            clear ho hg h3 hf3
            by_cases hcap : tcap = m + 1
            · subst hcap
              have hxj : Hid (ths.length = m + 1) := Lib.hid (by omega)
              have hrow : Hid (∀ (w' : World) A' c', w'.ownsRow wr.heap.size 74 9 (.slice A' m c') m (flatN (ths.take m)) → w'.ownsRow wr.heap.size 74 9 (.slice A' m c') (ths.eraseIdx m).length (flatN (ths.eraseIdx m))) := Lib.hid (fun w' A' c' h => by
                have e1 := hn2.out
                have e2 := hfl.out
                have e3 := hxj.out
                rw [List.drop_eq_nil_of_le (by omega)] at e2
                rw [← e2, ← e1, e3, Nat.sub_self]
                simpa [flatN] using h)
              go_wp2_with (at_builtin; refine wpList_append_full _ rfl _ _ 69 rfl wr.heap.size 74 i0 Nt.zero.val 9 72 Tryd.underlying69 hi0 hz0 hz1 hz2 rfl (by decide) (.slice A3 m c3) m (flatN (ths.take m)) rfl HO.out (some ⟨tb, toff, none⟩) 0 0 [] rfl (fun e => by cases e) rfl (fun ad _ q u hu => by simp at hu) ?c7 ?c3 ?c4 ?c5 ?_)
              case c7 => intro u hu; simp at hu
              case c3 => unfold maxLen; omega
              case c4 => omega
              case c5 => omega
              intro A4 c4 w9 h4 ho hg hf4
              have hB9 := below_row hBa.out (Nat.le_refl _) HO.out hg
              have hr9 := hrow.out _ _ _ ho
              have hob9 := HOB8.out.ext hB9
              have t0'' := cell_of hob9.bx
              have tf'' := free_of hob9.bx
              have tl'' := lt_of hob9.bx
              have HOB9 := Lib.hid (hob9.put (ths' := ths.eraseIdx m) (grown_refl _ _) (row_mono hr9 HOB8.out.fw.lo) (fun g hg => HOB8.out.new (hr9.lt g hg).1))
              clear hB9 hr9 hob9 ho hg h4 hf4
              go_wp2_with fail
              go_roundg (l.length - (k + 1))
              case measure => have := HLT.out; omega
              case rel => exact ⟨k + 1, by go_num, by have := HLT.out; omega, Lib.hid ⟨_, _, _, _, HOB9.out, HINV.out.take HQ.out.1 HQ.out.2 HMY.out.1 (HMY.out.2.trans HYG.out)⟩⟩
            · have hc1 : m + 1 < tcap := by omega
              have hrow : Hid (∀ (w' : World) A' c', w'.ownsRow wr.heap.size 74 9 (.slice A' (m + (ths.length - (m + 1))) c') (m + (ths.length - (m + 1))) (flatN (ths.take m) ++ flatN (ths.drop (m + 1))) → w'.ownsRow wr.heap.size 74 9 (.slice A' (m + (ths.length - (m + 1))) c') (ths.eraseIdx m).length (flatN (ths.eraseIdx m))) := Lib.hid (fun w' A' c' h => by
                rw [← hfl.out, ← hn2.out]
                exact h)
              clear hcap
              go_wp2_with (at_builtin; refine wpList_append_full _ rfl _ _ 69 rfl wr.heap.size 74 i0 Nt.zero.val 9 72 Tryd.underlying69 hi0 hz0 hz1 hz2 rfl (by decide) (.slice A3 m c3) m (flatN (ths.take m)) rfl HO.out (some ⟨tb, toff + (m + 1) * 9, none⟩) (ths.length - (m + 1)) (tcap - (m + 1)) (flatN (ths.drop (m + 1))) rfl (fun e => by cases e) HDL.out (HS8.out.drop (m + 1)).full ?c7 ?c3 ?c4 ?c5 ?_)
              case c7 => exact flatN_one _
              case c3 => unfold maxLen; omega
              case c4 => omega
              case c5 => omega
              intro A4 c4 w9 h4 ho hg hf4
              have hB9 := below_row hBa.out (Nat.le_refl _) HO.out hg
              have hr9 := hrow.out _ _ _ ho
              have hob9 := HOB8.out.ext hB9
              have t0'' := cell_of hob9.bx
              have tf'' := free_of hob9.bx
              have tl'' := lt_of hob9.bx
              have HOB9 := Lib.hid (hob9.put (ths' := ths.eraseIdx m) (grown_refl _ _) (row_mono hr9 HOB8.out.fw.lo) (fun g hg => HOB8.out.new (hr9.lt g hg).1))
              clear hB9 hr9 hob9 ho hg h4 hf4
              go_wp2_with fail
              go_roundg (l.length - (k + 1))
              case measure => have := HLT.out; omega
              case rel => exact ⟨k + 1, by go_num, by have := HLT.out; omega, Lib.hid ⟨_, _, _, _, HOB9.out, HINV.out.take HQ.out.1 HQ.out.2 HMY.out.1 (HMY.out.2.trans HYG.out)⟩⟩
    · have ek : decide ((k : Int) < (l.length : Int)) = false := by simp; omega
      have ek2 : decide (k < l.length) = false := by simpa using hlt
      obtain ⟨V, G, tv, ths, hob, hinv⟩ := HR.out
      have HOB := Lib.hid hob
      have HINV := Lib.hid hinv
      have HFL2 : Hid (flatG n G = ((List.range n).map G).flatten) := Lib.hid rfl
      have hth : ths.length ≤ 256 := by
        rw [hinv.len]
        have := flatten_le 16 ((List.range n).map G) (fun x hx => by obtain ⟨i, h1, rfl⟩ := List.mem_map.1 hx; have := hob.fw.fa.fit i (List.mem_range.1 h1); have := hob.fw.fa.n16; omega)
        have h3 := hob.fw.fa.n16
        simp at this
        unfold flatG
        simp
        omega
      obtain ⟨N, hN⟩ : ∃ N, N = wr.heap.size := ⟨_, rfl⟩
      clear hk hlt HR hob hinv
      have HNB : Hid (Below wr.heap.size wr (wr.alloc (.cells #[.int .i64 0] 3)) ∧ (wr.alloc (.cells #[.int .i64 0] 3)).heap[N]? = some (.cells #[.int .i64 0] 3 (0, 0)) ∧ N < (wr.alloc (.cells #[.int .i64 0] 3)).heap.size) := Lib.hid ⟨ext_alloc _ (Below.refl _ _), by rw [hN]; exact alNew rfl, by rw [hN]; simp⟩
      go_wp2_with fail
      rw [← hN]
      obtain ⟨w5, hw5⟩ : ∃ w5, w5 = wr.alloc (.cells #[.int .i64 0] 3) := ⟨_, rfl⟩
      rw [← hw5] at HNB ⊢
      have HNW := Lib.hid hN
      clear hw5 hN
      have HOB5 := Lib.hid (HOB.out.ext HNB.out.1)
      refine (fall_ok HOB5.out.fw.fa).mono ?_
      rintro e w6 ⟨q, b2, v2, rs, rfl, hq, hqs, hrv, hxs, hrk, hb6⟩
      have HOB6 := Lib.hid (HOB5.out.ext hb6)
      have HN6 : Hid (w6.heap[N]? = some (.cells #[.int .i64 0] 3 (0, 0)) ∧ N < w6.heap.size) := Lib.hid ⟨(hb6.block _ HNB.out.2.2).trans HNB.out.2.1, Nat.lt_of_lt_of_le HNB.out.2.2 hb6.size⟩
      have HRV := Lib.hid hrv
      have HRK := Lib.hid (fun k9 h9 => Nat.lt_of_lt_of_le HNB.out.2.2 (hrk k9 h9))
      have HRKO : Hid (∀ k9, RK b2 v2 rs k9 → ¬ OK p R T n P V tv k9) := Lib.hid (fun k9 h9 h8 => by have := hrk k9 h9; have := HOB5.out.lt h8; omega)
      have HNO : Hid (∀ k9, OK p R T n P V tv k9 → k9 ≠ N) := Lib.hid (fun k9 h9 => by have := HOB.out.lt h9; have := HNW.out; omega)
      have HRL := Lib.hid (HOB5.out.fw.fa.rows hxs)
      have HXS : Hid (flat rs = flatG n G) := Lib.hid (by rw [flat_map, hxs]; rfl)
      have hz := iseq_nil
      clear hqs hrk hb6 hxs
      go_wp2_with fail
      clear hz
      refine (wpIn_wide (n := 6)).1 ?_
      refine wpIn_rangeFunc_runsB w6.heap.size 17 BxN (fun x b W W' row h hg hr => blk_held h hg hr) hro (by omega) (gf := 79) (lb := #[.pointer (some ⟨q, 0, none⟩)]) rfl trivial (enters_of Tryd.func79 (by kernel_rfl) rfl)
        (allF_runs (6 - 1) (by omega) q b2 v2 rs w6 hq HRV.out (by have := HRL.out.1; omega) (fun r hr => by have := HRL.out.2.1 r hr; omega)) (fun h k => h.trans k) (fun W l o o' hl ho hc hw => ?kp) (Below.refl _ _) (fun _ => rfl)
        (fun pre X => ((∀ k9, OK p R T n P V tv k9 → X.heap[k9]? = w6.heap[k9]?) ∧ X.heap[N]? = some (.cells #[.int .i64 pre.length] 3 (0, 0)) ∧ Below w.heap.size w X) ∧ KeepF b2 v2 rs w6 X ∧ w6.heap.size ≤ X.heap.size)
        (fun _ _ _ => False) ?hI (fun cc _ _ _ _ h _ _ => h) ⟨⟨fun _ _ => rfl, HN6.out.1, HOB6.out.fw.be⟩, KeepF.refl, Nat.le_refl _⟩ ?assign ?body ?done ?stop
      case kp => exact fun k9 h9 => World.putObj_heap_other (by have := HRV.out.lt h9; omega)
      case hI =>
        rintro pre X Y row ⟨⟨h1, h2, h3⟩, h4, h5⟩ hg hr
        have hk : ∀ k9, k9 < w6.heap.size → Y.heap[k9]? = X.heap[k9]? := fun k9 h9 => hg.block k9 (Nat.lt_of_lt_of_le h9 h5) (fun e => by have := (hr k9 e.symm).1; omega)
        have hs6 := HOB6.out.fw.be.size
        exact ⟨⟨fun k9 h9 => (hk k9 (HOB6.out.lt h9)).trans (h1 k9 h9), (hk N HN6.out.2).trans h2, h3.grown hg h3.size (fun k9 e => by have := (hr k9 e).1; omega)⟩, fun k9 h9 => (hk k9 (HRV.out.lt h9)).trans (h4 k9 h9), Nat.le_trans h5 hg.size⟩
      case assign =>
        rintro l2 pre x X K hok ⟨⟨h1, h2, h3⟩, h4, h5⟩ hK
        have hal : Below X.heap.size X (X.alloc (.cells #[.int .i64 x.k, .int .i64 x.c, .int .i64 x.l, .int .i64 x.w, .int .i64 x.s, .int .i64 x.a, .int .i64 x.b, .bool x.d, .int .i64 x.n] 74)) := ext_alloc _ (Below.refl _ _)
        have hkk : ∀ k9, k9 < w6.heap.size → (X.alloc (.cells #[.int .i64 x.k, .int .i64 x.c, .int .i64 x.l, .int .i64 x.w, .int .i64 x.s, .int .i64 x.a, .int .i64 x.b, .bool x.d, .int .i64 x.n] 74)).heap[k9]? = X.heap[k9]? := fun k9 h9 => hal.block k9 (by omega)
        have hk := hK X.heap.size (X.alloc (.cells #[.int .i64 x.k, .int .i64 x.c, .int .i64 x.l, .int .i64 x.w, .int .i64 x.s, .int .i64 x.a, .int .i64 x.b, .bool x.d, .int .i64 x.n] 74)) h5 (KA.of_below hal) (fun k9 h9 => hkk k9 (HRV.out.lt h9)) ⟨⟨fun k9 h9 => (hkk k9 (HOB6.out.lt h9)).trans (h1 k9 h9), (hkk N HN6.out.2).trans h2, ext_trans h3 hal⟩, fun k9 h9 => (hkk k9 (HRV.out.lt h9)).trans (h4 k9 h9), Nat.le_trans h5 hal.size⟩ (alNew rfl)
        gi_wp2
        unfold boxFrame at hk
        simpa using hk
      case body =>
        rintro l2 pre x bx X hl2 hr ⟨⟨h1, h2, h3⟩, h4, h5⟩ hbx bX hok
        have HMEM : Hid (x ∈ ths) := Lib.hid (HINV.out.mem.2 (by rw [← HXS.out]; exact hok.subset (by simp)))
        have hpl : (pre.length : Int) ≤ 256 := by have := hok.length_le; have := HRL.out.2.2; simp at *; omega
        have HX := Lib.hid (And.intro h1 (And.intro h2 (And.intro h3 (And.intro h4 h5))))
        have HOX := Lib.hid (HOB6.out.keep h5 h1 h3)
        have HBX := Lib.hid bX
        clear h1 h2 h3 h4 h5 bX hok hr
        unfold boxFrame
        gi_wp2_with fail
        gi_loopg [18, 19] ths.length (fun g s18 s19 wq => ∃ k' : Nat, s18 = .bool (decide (x ∈ ths.take k')) ∧ s19 = .int .i64 k' ∧ k' + g = ths.length ∧ Hid (Below X.heap.size X wq))
        case atStart => exact ⟨0, by simp, rfl, by omega, Lib.hid (Below.refl _ _)⟩
        case round =>
          obtain ⟨k', rfl, rfl, hk', HQ⟩ := hrel
          have hobq := HOX.out.ext HQ.out
          obtain ⟨TA, tcap, htv, hsl, htc, htn, hta⟩ := rowN_val hobq.row
          have t0 := cell_of hobq.bx
          rw [htv] at t0
          have tl := lt_of hobq.bx
          have hbq : BxN wr bx x := (HQ.out.block _ HBX.out.lt).trans HBX.out
          obtain ⟨z0, z1, z2, z3, z4, z5, z6, z7, z8⟩ := hbq.cell
          have zl := hbq.lt
          by_cases hkl : k' < ths.length
          · have ek3 : decide ((k' : Int) < (ths.length : Int)) = true := by simp; omega
            have ek4 : decide (k' < ths.length) = true := by simpa using hkl
            have hkl3 : (k' : Int) < (ths.length : Int) := by omega
            have HLT2 := Lib.hid (And.intro hk' hkl)
            obtain ⟨tb, toff, rfl, htb, hcs⟩ := hsl (by omega)
            obtain ⟨y, hy⟩ : ∃ y, y = atN ths k' := ⟨_, rfl⟩
            have hcx : ∀ jj u, y.cells[jj]? = some u → wr.cell? ⟨tb, toff + k' * 9 + jj, none⟩ = some u := fun jj u hu => hcs k' hkl jj u (hy ▸ hu)
            have HMN := Lib.hid (mem_next ths x hkl)
            rw [← hy] at HMN
            clear hcs hy hk' hkl hobq hsl htn hta hbq htv
            cases hm : decide (x ∈ ths.take k') with
            | true =>
              have HT : Hid (decide (x ∈ ths.take (k' + 1)) = true) := Lib.hid (by rw [HMN.out, hm]; rfl)
              clear hm hcx HMN
              gi_wp2_with fail
              refine region_past_round (by kernel_rfl) (by kernel_rfl) (by kernel_rfl) ?_; (repeat (gi_big_quiet_step (fail))); refine wpQuietIn_nil ?_; rintro _ ⟨py, rfl⟩
              have HPY := Lib.hid (ext_past py HQ.out)
              gi_wp2_with fail
              gi_roundg (ths.length - (k' + 1))
              case measure => have := HLT2.out; omega
              case rel => exact ⟨k' + 1, by rw [HT.out], by go_num, by have := HLT2.out; omega, HPY⟩
            | false =>
              have x0 : wr.cell? ⟨tb, toff + k' * 9, none⟩ = _ := hcx 0 _ rfl
              have x1 := hcx 1 _ rfl
              have x2 := hcx 2 _ rfl
              have x3 := hcx 3 _ rfl
              have x4 := hcx 4 _ rfl
              have x5 := hcx 5 _ rfl
              have x6 := hcx 6 _ rfl
              have x7 := hcx 7 _ rfl
              have x8 := hcx 8 _ rfl
              have HT : Hid (decide (x ∈ ths.take (k' + 1)) = decide (y = x)) := Lib.hid (by rw [HMN.out, hm]; rfl)
              have hq := eqN5 y x
              simp only [Nt.out] at hq
              clear hm hcx HMN
              generalize decide (y = x) = eq at hq HT
              gi_wp2_with fail
              refine region_past_round (by kernel_rfl) (by kernel_rfl) (by kernel_rfl) ?_; (repeat (gi_big_quiet_step (fail))); refine wpQuietIn_nil ?_; rintro _ ⟨py, rfl⟩
              have HPY := Lib.hid (ext_past py HQ.out)
              gi_wp2_with fail
              gi_roundg (ths.length - (k' + 1))
              case measure => have := HLT2.out; omega
              case rel => exact ⟨k' + 1, by rw [HT.out], by go_num, by have := HLT2.out; omega, HPY⟩
          · have ek3 : decide ((k' : Int) < (ths.length : Int)) = false := by simp; omega
            have ek4 : decide (k' < ths.length) = false := by simpa using hkl
            obtain rfl : k' = ths.length := by omega
            have hm : decide (x ∈ ths.take ths.length) = true := by rw [List.take_length]; simpa using HMEM.out
            rw [hm]
            have hnq := (HQ.out.block N (Nat.lt_of_lt_of_le HN6.out.2 HX.out.2.2.2.2)).trans HX.out.2.1
            have n0 := cell_of hnq
            have nf := free_of hnq
            have nl := lt_of hnq
            have HNQ := Lib.hid hnq
            clear hm hkl hk' hobq hsl htn hta hbq htv hnq z0 z1 z2 z3 z4 z5 z6 z7 z8 zl
            gi_wp2_with fail
            obtain ⟨h1, h2, h3, h4, h5⟩ := HX.out
            have hk9 : ∀ k9, k9 < w6.heap.size → k9 ≠ N → (wr.setCell ⟨N, 0, none⟩ (.int .i64 ((pre.length : Int) + 1))).heap[k9]? = X.heap[k9]? := fun k9 h9 h8 => (Below.heap_setCell _ _ _ _ (by simpa using h8)).trans (HQ.out.block k9 (by omega))
            refine ⟨(KA.of_below HQ.out).trans (KA.setCell _ _ _ HN6.out.2), fun k9 h9 => hk9 k9 (HRV.out.lt h9) (by have := HRK.out k9 h9; omega), ⟨⟨fun k9 h9 => (hk9 k9 (HOB6.out.lt h9) (HNO.out k9 h9)).trans (h1 k9 h9), ?_, ?_⟩, fun k9 h9 => (hk9 k9 (HRV.out.lt h9) (by have := HRK.out k9 h9; omega)).trans (h4 k9 h9), ?_⟩⟩
            · have := set_of (u := .int .i64 ((pre.length : Int) + 1)) HNQ.out
              simpa using this
            · exact (ext_trans h3 HQ.out).setCell (p := ⟨N, 0, none⟩) (by have := HNW.out; have := HOB.out.fw.be.size; simp; omega) _
            · have := HQ.out.size
              simp
              omega
      case done =>
        rintro D ys Y hD rfl ⟨⟨h1, h2, h3⟩, h4, h5⟩ hK
        have hobY := HOB6.out.keep h5 h1 h3
        have hlen : (flat rs).length = ths.length := by rw [HXS.out, HINV.out.len]
        rw [hlen] at h2
        obtain ⟨TA, tcap, htv, _, _, _, _⟩ := rowN_val hobY.row
        have t0 := cell_of hobY.bx
        rw [htv] at t0
        have n0 := cell_of h2
        have HLN := Lib.hid (fun (W : World) (hb : Below Y.heap.size Y W) => flen_ok (hobY.fw.fa.ext hb))
        rw [← HFL2.out, ← HINV.out.len] at HLN
        have HAW := Lib.hid (fun (W : World) (hb : Below Y.heap.size Y W) => awake05 W (HL.out.ext (ext_trans h3 hb)) (HK.out.ext (ext_trans h3 hb)))
        have HOY := Lib.hid (And.intro hobY hK)
        have QB : ∀ W : World, Below Y.heap.size Y W → (fun (w' : World) => w'.cell? ⟨N, 0, none⟩ = some (.int .i64 ths.length) ∧ w'.cell? ⟨T, 0, none⟩ = some (.slice TA ths.length tcap)) W := fun W hb => ⟨(hb.cell (p := ⟨N, 0, none⟩) (lt_of h2)).trans n0, (hb.cell (p := ⟨T, 0, none⟩) (lt_of hobY.bx)).trans t0⟩
        have QR : ∀ W : World, Below Y.heap.size Y W → W.cell? ⟨R, 0, none⟩ = some (.bool false) ∧ W.frozen? ⟨R, 0, none⟩ = false ∧ R < W.heap.size := fun W hb => by
          have h9 := (hb.block R (lt_of hobY.rs)).trans hobY.rs
          exact ⟨cell_of h9, free_of h9, lt_of h9⟩
        have hNR : N ≠ R := by have := HNW.out; have := lt_of HOB.out.rs; omega
        have QB2 : ∀ (W : World) (v : Value), Below Y.heap.size Y W → (fun (w' : World) => w'.cell? ⟨N, 0, none⟩ = some (.int .i64 ths.length) ∧ w'.cell? ⟨T, 0, none⟩ = some (.slice TA ths.length tcap)) (W.setCell ⟨R, 0, none⟩ v) := fun W v hb => by
          obtain ⟨q1, q2⟩ := QB W hb
          have hTR : T ≠ R := by have := HOB.out.hR; have := HOB.out.hT; omega
          exact ⟨(World.cell?_of_block (a := ⟨N, 0, none⟩) (Below.heap_setCell _ _ _ _ (by simpa using hNR))).trans q1, (World.cell?_of_block (a := ⟨T, 0, none⟩) (Below.heap_setCell _ _ _ _ (by simpa using hTR))).trans q2⟩
        clear h1 h2 h3 h4 h5 hobY hK hlen htv t0 n0 hNR
        go_wp2_with fail
        go_region_held3 (fun w' => w'.cell? ⟨N, 0, none⟩ = some (.int .i64 ths.length) ∧ w'.cell? ⟨T, 0, none⟩ = some (.slice TA ths.length tcap))
          (first | exact QB2 _ _ (by repeat (with_reducible first | exact Below.refl _ _ | assumption | (refine ext_next (by assumption) ?_) | apply ext_alloc | apply ext_past | apply ext_drew | apply ext_drewN)) | exact QB _ (by repeat (with_reducible first | exact Below.refl _ _ | assumption | (refine ext_next (by assumption) ?_) | apply ext_alloc | apply ext_past | apply ext_drew | apply ext_drewN)))
          (first
            | (go_at_call 36; refine (HLN.out _ (by repeat (with_reducible first | exact Below.refl _ _ | assumption | (refine ext_next (by assumption) ?_) | apply ext_alloc | apply ext_past | apply ext_drew | apply ext_drewN))).mono ?_; rintro e y6 ⟨rfl, hb6⟩)
            | (go_at_call 30; refine (HAW.out _ (by repeat (with_reducible first | exact Below.refl _ _ | assumption | (refine ext_next (by assumption) ?_) | apply ext_alloc | apply ext_past | apply ext_drew | apply ext_drewN))).mono ?_; rintro e y7 ⟨rfl, hb7⟩; obtain ⟨r0, rf, rl⟩ := QR y7 (by repeat (with_reducible first | exact Below.refl _ _ | assumption | (refine ext_next (by assumption) ?_) | apply ext_alloc | apply ext_past | apply ext_drew | apply ext_drewN))))
        all_goals
          have hbY := ext_trans (show Below Y.heap.size Y y7 by repeat (with_reducible first | exact Below.refl _ _ | assumption | (refine ext_next (by assumption) ?_) | apply ext_alloc | apply ext_past | apply ext_drew | apply ext_drewN)) (Below.refl _ _)
          obtain ⟨hobY, hK⟩ := HOY.out
          have hob7 := hobY.ext hbY
          have hK7 := (hbY.block D (lt_of hK)).trans hK
          have HB7 := Lib.hid hob7.fw.be
          have hr7 := hob7.rs
          have hRD : R ≠ D := by have := HOB6.out.lt (k := R) (.inr (.inl rfl)); omega
          have hRw := HOB.out.hR.1
          have hwD : w.heap.size ≤ D := by have := HOB6.out.fw.be.size; omega
          go_wp2_with fail
          have hK' := (KeepsOthers.setCell y7 ⟨R, 0, none⟩ (.bool true)).same D _ hK7 rfl
          refine ⟨by simp, .inl ⟨_, _, rfl, run_takeDeferred hK', ?_⟩⟩
          have hc7 := cell_kept (World.cell?_setCell_same' y7 ⟨R, 0, none⟩ (.bool true) (by rw [r0]; rfl)) (grownBy_putObj' _ D (.deferred none)) (fun r e => by cases e; exact ⟨_, hK', rfl⟩)
          refine ⟨.bool true, ?_, rfl, (HB7.out.setCell (p := ⟨R, 0, none⟩) hRw _).trans (belowK_b (w := w) (Nat.le_refl _) _ D _ _ hwD hK' rfl rfl)⟩
          simp [results, Tryd.f6, go_sem, hc7]
      case stop =>
        rintro D cc pre Y hD _ h hK
        exact h.elim

theorem fabriconce (c : Cfg) (A : Option Addr) (l : List Op5) (cap : Nat) (w : World) (hP : SlP w A l) (hm : l.length ≤ maxLen) (hL : Lims w) (hK : Kinds w) :
    Calls Tryd.prog 6 #[.agg #[.int .i64 c.co, .int .i64 c.gr, .int .i64 c.se, .int .i64 c.wa, .int .i64 c.de, .int .i64 c.en, .int .i64 c.ba], .slice A l.length cap] w fun e w' => e = .returned (.bool true) ∧ Below w.heap.size w w' := by
  by_cases hc : c.ok
  · cases hf : few5 l with
    | true => exact once5_yes hP hm hL hK hc hf
    | false => exact once5_no hP hm hL hK (.inr hf)
  · exact once5_no hP hm hL hK (.inl hc)

end Go.Proofs.YtkfnjpmigifomaaDoor
