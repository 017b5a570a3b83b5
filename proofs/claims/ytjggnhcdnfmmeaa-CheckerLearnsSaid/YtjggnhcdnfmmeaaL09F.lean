/- What this text holds: the law CheckerLearns, walked. No condition. -/
import Derived.Test.YtjggnhcdnfmmeaaL09E
namespace Go.Proofs.Ytjggnhcdnfmmeaa
open Go.RowKit

/-- What a walk by the words of the table has come to. -/
def Ph (X : Nat → Prop) (n : Int) (m : Nat) (w0 w : World) (p pt gt bx k : Nat) (es : List En) (gk : Nat) (d : Bool) (i a : Int) : Prop :=
  ∃ v s, Lr X n m w0 w p pt gt v s es ∧ w.heap[bx]? = some (.cells #[.int .i64 (atE es k).1, .bool (atE es k).2] 55 (0, 0)) ∧
    ((gk = 3 ∧ d = false ∧ i = 0 ∧ a = (k : Int) / 4 ∧ s.wk = true ∧ s.st = false ∧ s.g = k ∧ s.a = (k : Int) / 4 ∧ ∀ f ∈ s.ks, f.1 < (k : Int)) ∨
     (gk = 2 ∧ d = false ∧ i = 1 ∧ a = ((m : Int) + 3) / 4 + k ∧ s.wk = true ∧ s.st = false ∧ s.g = k ∧ s.a = ((m : Int) + 3) / 4 + k ∧ ∀ f ∈ s.ks, f.1 < (k : Int)) ∨
     (gk = 1 ∧ d = false ∧ i = 2 ∧ (atE es k).2 = true) ∨
     (gk = 1 ∧ d = true ∧ (i = 1 ∨ i = 2) ∧ (atE es k).2 = false ∧ s.wk = false ∧ (∃ ks : List Fa, s.ks = learnt ks n (k, (atE es k).1) ∧ ∀ f ∈ ks, f.1 < (k : Int))))

set_option maxRecDepth 100000 in
set_option maxHeartbeats 16000000 in
theorem learns_in (n : Int) (m : Nat) (A B : Option Addr) (l : List Op9) (l' : List En) (cap cap' : Nat) (w : World) (h : SlO w A l) (h' : SlT w B l') (hm : may9B n m = true) (hl : l.length ≤ 80) (hl' : l'.length ≤ maxLen) :
    Calls Try.prog 5 #[.agg #[.int .i64 n, .int .i64 m], .slice A l.length cap, .slice B l'.length cap'] w fun e w' => e = .returned (.bool true) ∧ Below w.heap.size w w' := by
  have hbd : 1 ≤ n ∧ n ≤ 8 ∧ 1 ≤ (m : Int) ∧ (m : Int) ≤ 16 := by simpa [may9B, and_assoc] using hm
  obtain ⟨b1, b2, b3, b4⟩ := hbd
  unfold maxLen at hl'
  obtain ⟨W, hW⟩ : ∃ W, W = w.alloc (.cells #[.int .i64 n, .int .i64 m] 22) := ⟨_, rfl⟩
  have hbx : W.heap[w.heap.size]? = some (.cells #[.int .i64 n, .int .i64 m] 22 (0, 0)) := by rw [hW]; exact alNew rfl
  have HBX := Lib.hid hbx
  obtain ⟨c0, c1, cl⟩ := cells2 hbx
  have HB := Lib.hid (show Below w.heap.size w W by rw [hW]; exact ext_alloc _ (Below.refl _ _))
  have HW := Lib.hid hW
  have H := Lib.hid h
  have H' := Lib.hid h'
  have HM := Lib.hid hm
  have e1 : decide ((l.length : Int) ≤ 80) = true := by simp; omega
  clear hW hbx h h' hm
  go_enter Try.func5, Try.ntmps5
  go_wp2_with (rw [← HW.out])
  refine (may9_any n m W).mono ?_
  rintro e w1 ⟨rfl, hw⟩
  subst hw
  rw [HM.out]
  go_wp2_with fail
  refine (few9_any A l.length cap _).mono ?_
  rintro e w0 ⟨rfl, hw⟩
  subst hw
  rw [e1]
  go_wp2_with fail
  refine (cnew_ok n m w0 b1 b2 b3 b4).mono ?_
  rintro e w1 ⟨rfl, hC, hb⟩
  have HC := Lib.hid hC
  have HB1 := Lib.hid hb
  obtain ⟨d0, d1, dl⟩ := cells2 ((hb.block _ cl).trans HBX.out)
  clear hC hb c0 c1
  go_wp2_with fail
  refine (new_ok m w1 (by omega) (by omega)).mono ?_
  rintro e w2 ⟨rfl, hT, hb, _⟩
  have HL := Lib.hid (Lr.first b1 b2 (by omega) (by omega) HW.out HC.out HB1.out hT hb)
  clear hT hb d0 d1 dl
  generalize hX : (fun k => k ≤ w.heap.size ∨ k = w1.heap.size ∨ k = w1.heap.size + 1) = X at HL
  generalize w1.heap.size + 1 = pt at HL ⊢
  generalize w1.heap.size = gt at HL
  generalize w0.heap.size = p at HL ⊢
  have HG0 := Lib.hid (good_new m)
  have HN0 : Hid ((List.replicate m ((0, false) : En)).length = m) := Lib.hid (by simp)
  generalize List.replicate m ((0, false) : En) = es0 at HL HG0 HN0
  clear hX HC HB1 HW HBX cl
  go_wp2_with fail
  go_loopg [11] l.length (fun g11 s11 wr => ∃ k : Nat, k + g11 = l.length ∧ s11 = .int .i64 k ∧ Hid (∃ v s, Lr X n m w wr p pt gt v s es0))
  case atStart => exact ⟨0, by omega, rfl, Lib.hid ⟨_, _, HL.out⟩⟩
  case round =>
    obtain ⟨k, hk, rfl, HR⟩ := hrel
    obtain ⟨v, s, hLr⟩ := HR.out
    have HLr := Lib.hid hLr
    obtain ⟨k0, k1, kl⟩ := cells2 hLr.box
    clear HR hLr
    by_cases hlt : k < l.length
    · have ek : decide ((k : Int) < (l.length : Int)) = true := by simp; omega
      obtain ⟨b, off, rfl, hb, hc⟩ := H.out (by omega)
      have hcc := hc k hlt
      have eb := (HLr.out.below.block b hb)
      have o0 := (World.cell?_of_block (a := ⟨b, off + k * 4, none⟩) eb).trans hcc.1
      have o1 := (World.cell?_of_block (a := ⟨b, off + k * 4 + 1, none⟩) eb).trans hcc.2.1
      have o2 := (World.cell?_of_block (a := ⟨b, off + k * 4 + 2, none⟩) eb).trans hcc.2.2.1
      have o3 := (World.cell?_of_block (a := ⟨b, off + k * 4 + 3, none⟩) eb).trans hcc.2.2.2
      have hbr : b < wr.heap.size := by have := HLr.out.below.size; omega
      clear hc hcc eb
      generalize atO l k = o at o0 o1 o2 o3
      go_wp2_with fail
      have QQ := And.intro k0 (And.intro k1 (And.intro o0 (And.intro o1 (And.intro o2 o3))))
      go_region_held3 (fun w' => w'.cell? ⟨w.heap.size, 0, none⟩ = some (.int .i64 n) ∧ w'.cell? ⟨w.heap.size, 1, none⟩ = some (.int .i64 m) ∧ w'.cell? ⟨b, off + k * 4, none⟩ = some (.int .i64 o.k) ∧ w'.cell? ⟨b, off + k * 4 + 1, none⟩ = some (.int .i64 o.g) ∧ w'.cell? ⟨b, off + k * 4 + 2, none⟩ = some (.int .i64 o.x) ∧ w'.cell? ⟨b, off + k * 4 + 3, none⟩ = some (.int .i64 o.y))
        (exact QQ)
        (first
          | (go_at_call 14; have hq := rnew n m wr.drew; refine hq.mono ?_; clear hq; rintro e w3 ⟨rfl, hR, hb3⟩; have HR3 := Lib.hid hR; have HB3 := Lib.hid (un_drew hb3); have QQ := And.intro ((HB3.out.cell (p := ⟨w.heap.size, 0, none⟩) kl).trans k0) (And.intro ((HB3.out.cell (p := ⟨w.heap.size, 1, none⟩) kl).trans k1) (And.intro ((HB3.out.cell (p := ⟨b, off + k * 4, none⟩) hbr).trans o0) (And.intro ((HB3.out.cell (p := ⟨b, off + k * 4 + 1, none⟩) hbr).trans o1) (And.intro ((HB3.out.cell (p := ⟨b, off + k * 4 + 2, none⟩) hbr).trans o2) ((HB3.out.cell (p := ⟨b, off + k * 4 + 3, none⟩) hbr).trans o3))))); clear hR hb3)
          | (go_at_call 15; have hq := does_weak X n m p wr.heap.size o.k o.g o.x o.y w3 (HLr.out.co.ref HR3.out HB3.out); refine hq.mono ?_; clear hq; rintro e w4 ⟨⟨bb, rfl⟩, hq4, hk4⟩; have HR4 := Lib.hid (HLr.out.dealt hq4 ((HLr.out.co.kp HB3.out).trans hk4)); have QQ := And.intro ((World.cell?_of_block (a := ⟨w.heap.size, 0, none⟩) (hk4.block w.heap.size (HLr.out.xb _ (Nat.le_refl _)))).trans QQ.1) (And.intro ((World.cell?_of_block (a := ⟨w.heap.size, 1, none⟩) (hk4.block w.heap.size (HLr.out.xb _ (Nat.le_refl _)))).trans QQ.2.1) (And.intro ((World.cell?_of_block (a := ⟨b, off + k * 4, none⟩) (hk4.block b (HLr.out.xb _ (Nat.le_of_lt hb)))).trans QQ.2.2.1) (And.intro ((World.cell?_of_block (a := ⟨b, off + k * 4 + 1, none⟩) (hk4.block b (HLr.out.xb _ (Nat.le_of_lt hb)))).trans QQ.2.2.2.1) (And.intro ((World.cell?_of_block (a := ⟨b, off + k * 4 + 2, none⟩) (hk4.block b (HLr.out.xb _ (Nat.le_of_lt hb)))).trans QQ.2.2.2.2.1) ((World.cell?_of_block (a := ⟨b, off + k * 4 + 3, none⟩) (hk4.block b (HLr.out.xb _ (Nat.le_of_lt hb)))).trans QQ.2.2.2.2.2))))); clear hq4 hk4))
      clear QQ o0 o1 o2 o3
      go_wp2_with fail
      go_roundg (l.length - (k + 1))
      case measure => omega
      case rel => exact ⟨k + 1, by omega, by go_num, HR4⟩
    · have ek : decide ((k : Int) < (l.length : Int)) = false := by simp; omega
      clear k0 k1 kl
      have hk8 : s.ks.length ≤ 100 := by have := HLr.out.co.fine.len; have := HLr.out.co.fine.n8; omega
      have hgr : s.gr = m := HLr.out.co.fine.gr
      have HGR := Lib.hid hgr
      clear hgr
      cases hw : s.wk
      · have HWK := Lib.hid hw
        clear hw
        go_wp2_with fail
        refine (cwalking_no p v s wr HLr.out.co.ck HWK.out).mono ?_
        rintro e w3 ⟨rfl, hb⟩
        have HL3 := Lib.hid (HLr.out.ext hb)
        clear hb
        go_wp2_with fail
        refine (cdrop_ok p v s (-1) w3 HL3.out.co.ck hk8 (by omega) (by rw [HGR.out]; omega)).mono ?_
        rintro e w4 ⟨rfl, v4, hC, hT, hF⟩
        have HL4 := Lib.hid (HL3.out.move (HL3.out.co.move hC (HL3.out.co.fine.dropt (-1)) hT hF))
        have HK4 : Hid ((dropt s (-1)).ks = [] ∧ (dropt s (-1)).wk = false) := Lib.hid ⟨kept_m1 _, HWK.out⟩
        generalize dropt s (-1) = s4 at HL4 HK4
        clear hC hT hF hk8
        dsimp only
        iterate 5 go_step
        go_cut [15] from 99 to 118 (fun s15 wd => Hid (∃ es, Lr X n m w wd p pt gt v4 s4 es ∧ Good es ∧ es.length = m))
        case first =>
          go_wp2_with fail
          go_loopg [15] l'.length (fun g15 s15 wr => ∃ k : Nat, k + g15 = l'.length ∧ s15 = .int .i64 k ∧ Hid (∃ es, Lr X n m w wr p pt gt v4 s4 es ∧ Good es ∧ es.length = m))
          case atStart => exact ⟨0, by omega, rfl, Lib.hid ⟨es0, HL4.out, HG0.out, HN0.out⟩⟩
          case round =>
            obtain ⟨k, hk, rfl, HR⟩ := hrel
            obtain ⟨es, hLr, hgood, hlen⟩ := HR.out
            have HL5 := Lib.hid hLr
            have HG5 := Lib.hid hgood
            have HN5 := Lib.hid hlen
            obtain ⟨k0, k1, kl⟩ := cells2 hLr.box
            clear hLr hgood hlen
            by_cases hlt : k < l'.length
            · have ek : decide ((k : Int) < (l'.length : Int)) = true := by simp; omega
              by_cases hkm : k < m
              · have em : decide ((k : Int) < (m : Int)) = true := by simp; omega
                obtain ⟨b, off, rfl, hb, hc⟩ := H'.out (by omega)
                have hcc := hc k hlt
                have eb := (HL5.out.below.block b hb)
                have o0 := (World.cell?_of_block (a := ⟨b, off + k * 2, none⟩) eb).trans hcc.1
                have o1 := (World.cell?_of_block (a := ⟨b, off + k * 2 + 1, none⟩) eb).trans hcc.2
                have hbr : b < wr.heap.size := by have := HL5.out.below.size; omega
                clear hc hcc eb
                generalize atE l' k = o at o0 o1
                obtain ⟨ow, lk⟩ := o
                cases ho : ownB ow
                · have HO := Lib.hid ho
                  clear ho
                  go_wp2_with fail
                  refine (set_no pt gt es k ow lk wr HL5.out.tb (fun hx => by have := hx.2.2; rw [HO.out] at this; cases this)).mono ?_
                  rintro e w5 ⟨rfl, hb5⟩
                  have HL6 := Lib.hid (HL5.out.ext hb5)
                  clear hb5 o0 o1 k0 k1 kl
                  go_wp2_with fail
                  go_roundg (l'.length - (k + 1))
                  case measure => omega
                  case rel => exact ⟨k + 1, by omega, by go_num, Lib.hid ⟨es, HL6.out, HG5.out, HN5.out⟩⟩
                · have HO := Lib.hid ho
                  clear ho
                  go_wp2_with fail
                  refine (set_yes pt gt es k ow lk wr HL5.out.tb (by omega) (by rw [HN5.out]; omega) HO.out).mono ?_
                  rintro e w5 ⟨rfl, hg5, ht5⟩
                  have HL6 := Lib.hid (HL5.out.set hg5 ht5)
                  clear hg5 ht5 o0 o1 k0 k1 kl
                  go_wp2_with fail
                  go_roundg (l'.length - (k + 1))
                  case measure => omega
                  case rel => exact ⟨k + 1, by omega, by go_num, Lib.hid ⟨_, HL6.out, by have := put1_good (i := ((k : Int)).toNat) (x := (ow, lk)) HG5.out; unfold put1 at this; rw [HO.out] at this; exact this, by rw [List.length_set]; exact HN5.out⟩⟩
              · have em : decide ((k : Int) < (m : Int)) = false := by simp; omega
                go_wp2_with fail
                go_meet
                exact Lib.hid ⟨es, HL5.out, HG5.out, HN5.out⟩
            · have ek : decide ((k : Int) < (l'.length : Int)) = false := by simp; omega
              clear k0 k1 kl
              go_wp2_with fail
              go_meet
              exact Lib.hid ⟨es, HL5.out, HG5.out, HN5.out⟩
        case rest =>
          obtain ⟨es, hL5, hG5, hN5⟩ := hcut.out
          have HL5 := Lib.hid hL5
          have HG5 := Lib.hid hG5
          have HN5 := Lib.hid hN5
          clear hL5 hG5 hN5 hcut HL4
          go_wp2_with fail
          go_loopg [16] m (fun g16 s16 wr3 => ∃ k : Nat, k + g16 = m ∧ s16 = .int .i64 k ∧ Hid (∃ v s, Lr X n m w wr3 p pt gt v s es ∧ s.wk = false ∧ ∀ f ∈ s.ks, f.1 < (k : Int)))
          case atStart => exact ⟨0, by omega, rfl, Lib.hid ⟨_, _, HL5.out, HK4.out.2, by rw [HK4.out.1]; simp⟩⟩
          case round =>
            obtain ⟨k, hk, rfl, HR⟩ := hrel
            obtain ⟨v5, s5, hLr, hwk, hks⟩ := HR.out
            have HL6 := Lib.hid hLr
            have HKS := Lib.hid (And.intro hwk hks)
            obtain ⟨k0, k1, kl⟩ := cells2 hLr.box
            have hk8 : s5.ks.length ≤ 100 := by have := hLr.co.fine.len; have := hLr.co.fine.n8; omega
            have hgr5 : s5.gr = m := hLr.co.fine.gr
            have HGR5 := Lib.hid hgr5
            clear hLr hwk hks HR hgr5
            by_cases hlt : k < m
            · have ek : decide ((k : Int) < (m : Int)) = true := by simp; omega
              have hno : Nowhere s5.ks (k : Int) := nowhere_iff.2 (fun f hf e => by have := HKS.out.2 f hf; omega)
              have HNO := Lib.hid hno
              clear hno
              go_wp2_with fail
              clear k0 k1 kl
              refine (cbegin_ok p v5 s5 k _ HL6.out.co.ck hk8 (by omega) (by rw [HGR5.out]; omega) (by rw [HGR5.out]; omega) HNO.out HKS.out.1).mono ?_
              rintro e w6 ⟨rfl, hC, hg⟩
              have HL7 := Lib.hid (HL6.out.move (HL6.out.co.move hC (HL6.out.co.fine.begun (by omega) (by omega) HNO.out) (Tc.of_grown hg) (fun g hg => .inl hg)))
              clear hC hg
              go_wp2_with fail
              refine (get_yes pt gt es k w6 HL7.out.tb (by omega) (by rw [HN5.out]; omega)).mono ?_
              rintro e w7 ⟨rfl, hb⟩
              rw [Int.toNat_natCast]
              have HL8 := Lib.hid (HL7.out.ext hb)
              clear hb
              generalize hxx : atE es k = xx
              obtain ⟨ow, lk⟩ := xx
              have HXX := Lib.hid hxx
              clear hxx
              have hk16 : k < es.length := by rw [HN5.out]; exact hlt
              have hbx0 : (w7.alloc (.cells #[.int .i64 ow, .bool lk] 55)).heap[w7.heap.size]? = some (.cells #[.int .i64 (atE es k).1, .bool (atE es k).2] 55 (0, 0)) := by rw [HXX.out]; exact alNew rfl
              have HP0 := Lib.hid (show Ph (fun j => X j ∨ j = w7.heap.size) n m w (w7.alloc (.cells #[.int .i64 ow, .bool lk] 55)) p pt gt w7.heap.size k es 3 false 0 ((k : Int) / 4) from
                ⟨_, _, HL8.out.with (ext_alloc _ (Below.refl _ _)) (Nat.le_refl _) (lt_of hbx0), hbx0, .inl ⟨rfl, rfl, rfl, rfl, rfl, rfl, rfl, rfl, HKS.out.2⟩⟩)
              have HXB : Hid (∀ j, j ≤ w.heap.size → X j) := Lib.hid HL8.out.xb
              have HXP : Hid (X pt ∧ X gt) := Lib.hid ⟨HL8.out.xp, HL8.out.xg⟩
              clear hbx0
              go_wp2_with fail
              generalize w7.heap.size = bx at HP0 ⊢
              go_loopg [17, 21, 22] 3 (fun g s17 s21 s22 wt => ∃ (d : Bool) (i a : Int), s17 = .int .i64 a ∧ s21 = .bool d ∧ s22 = .int .i64 i ∧ Hid (Ph (fun j => X j ∨ j = bx) n m w wt p pt gt bx k es g d i a))
              case atStart => exact ⟨false, 0, _, rfl, rfl, rfl, HP0⟩
              case round =>
                obtain ⟨d, i, a, rfl, rfl, rfl, HPh⟩ := hrel
                obtain ⟨v6, s6, hLr, hbx, hcase⟩ := HPh.out
                have HL9 := Lib.hid hLr
                have HBX := Lib.hid hbx
                have hk9 : s6.ks.length ≤ 90 := by have := hLr.co.fine.len; have := hLr.co.fine.n8; omega
                have HGE : Hid (s6.gr = m ∧ s6.en = n) := Lib.hid ⟨hLr.co.fine.gr, hLr.co.fine.en⟩
                rw [HXX.out] at hbx
                obtain ⟨q0, q1, ql⟩ := cells2 hbx
                clear HPh hLr hbx
                rcases hcase with ⟨rfl, rfl, rfl, rfl, hwk, hst, hsg, hsa, hks⟩ | ⟨rfl, rfl, rfl, rfl, hwk, hst, hsg, hsa, hks⟩ | ⟨rfl, rfl, rfl, hlk⟩ | ⟨rfl, rfl, hi, hlk, hwk, ks0, hks0, hks⟩
                · have HS := Lib.hid (And.intro hwk (And.intro hst (And.intro hsg (And.intro hsa hks))))
                  clear hwk hst hsg hsa hks q0 q1 ql
                  go_wp2_with fail
                  refine (wordX_yes pt gt es ((k : Int) / 4) _ HL9.out.tb (by rw [HN5.out]; omega) HG5.out (by omega) (by rw [words_length]; unfold ngr; omega)).mono ?_
                  rintro e w9 ⟨rfl, hb⟩
                  rw [word_first es k hk16]
                  have HL10 := Lib.hid (HL9.out.ext hb)
                  have HBX10 := Lib.hid ((hb.block _ (lt_of HBX.out)).trans HBX.out)
                  clear hb
                  have hfw := first_word es k hk16 (by rw [HN5.out]; omega) HG5.out
                  rw [HN5.out] at hfw
                  rcases hfw with hN | ⟨hlk, hN⟩
                  · have hcw := cwalked_more p v6 s6 (grpW es (k / 4)) (((m : Int) + 3) / 4 + k) w9 HL10.out.co.ck HS.out.1 HS.out.2.1 (by rw [HS.out.2.2.1]; omega) (by rw [HS.out.2.2.1]; omega) (by rw [HGE.out.1, HS.out.2.2.1, HS.out.2.2.2.1]; exact hN)
                    rw [HS.out.2.2.2.1] at hcw
                    have HCW := Lib.hid hcw
                    clear hN hcw
                    go_wp2_with fail
                    refine HCW.out.mono ?_
                    rintro e w10 ⟨rfl, hC, hg⟩
                    have hco := HL10.out.co.move hC (HL10.out.co.fine.at2' (by rw [HS.out.2.2.1])) (Tc.of_grown hg) (fun g hg => .inl hg)
                    have HL11 := Lib.hid (HL10.out.move hco)
                    have HBX11 := Lib.hid ((hco.2.block _ (.inr rfl)).trans HBX10.out)
                    clear hC hg hco
                    go_wp2_with fail
                    go_roundg 2
                    case measure => omega
                    case rel => exact ⟨false, 1, _, rfl, rfl, rfl, Lib.hid ⟨v6, _, HL11.out, HBX11.out, .inr (.inl ⟨rfl, rfl, rfl, rfl, HS.out.1, HS.out.2.1, HS.out.2.2.1, rfl, HS.out.2.2.2.2⟩)⟩⟩
                  · have hcw := cwalked_learn p v6 s6 (grpW es (k / 4)) (atE es k).1 w9 HL10.out.co.ck HS.out.1 HS.out.2.1 (by rw [HS.out.2.2.1]; omega) (by rw [HS.out.2.2.1]; omega) (by rw [HGE.out.1, HS.out.2.2.1, HS.out.2.2.2.1]; exact hN) hk9 (by rw [HGE.out.2]; exact b1)
                    rw [HS.out.2.2.2.1] at hcw
                    have HCW := Lib.hid hcw
                    have HLK := Lib.hid hlk
                    clear hN hcw hlk
                    go_wp2_with fail
                    refine HCW.out.mono ?_
                    rintro e w10 ⟨rfl, v7, hC, hT, hF⟩
                    have hco := HL10.out.co.move hC (HL10.out.co.fine.learnt HS.out.1 (HG5.out k hk16).1 (HG5.out k hk16).2) hT hF
                    have HL11 := Lib.hid (HL10.out.move hco)
                    have HBX11 := Lib.hid ((hco.2.block _ (.inr rfl)).trans HBX10.out)
                    clear hC hT hF hco
                    go_wp2_with fail
                    go_roundg 1
                    case measure => omega
                    case rel => exact ⟨true, 1, _, rfl, rfl, rfl, Lib.hid ⟨v7, _, HL11.out, HBX11.out, .inr (.inr (.inr ⟨rfl, rfl, .inl rfl, HLK.out, rfl, s6.ks, by rw [HGE.out.2, HS.out.2.2.1], HS.out.2.2.2.2⟩))⟩⟩
                · have HS := Lib.hid (And.intro hwk (And.intro hst (And.intro hsg (And.intro hsa hks))))
                  clear hwk hst hsg hsa hks q0 q1 ql
                  go_wp2_with fail
                  have hwx := wordX_yes pt gt es (((es.length : Int) + 3) / 4 + k) wr HL9.out.tb (by rw [HN5.out]; omega) HG5.out (by omega) (by rw [words_length]; unfold ngr; omega)
                  rw [word_own es k hk16, HN5.out] at hwx
                  refine hwx.mono ?_
                  clear hwx
                  rintro e w9 ⟨rfl, hb⟩
                  have HL10 := Lib.hid (HL9.out.ext hb)
                  have HBX10 := Lib.hid ((hb.block _ (lt_of HBX.out)).trans HBX.out)
                  clear hb
                  have hN := own_word es k hk16 (by rw [HN5.out]; omega) HG5.out
                  rw [HN5.out] at hN
                  cases hlk : (atE es k).2
                  · have hcw := cwalked_learn p v6 s6 (entW (atE es k)) (atE es k).1 w9 HL10.out.co.ck HS.out.1 HS.out.2.1 (by rw [HS.out.2.2.1]; omega) (by rw [HS.out.2.2.1]; omega) (by rw [HGE.out.1, HS.out.2.2.1, HS.out.2.2.2.1]; rw [hlk] at hN; exact hN) hk9 (by rw [HGE.out.2]; exact b1)
                    rw [HS.out.2.2.2.1] at hcw
                    have HCW := Lib.hid hcw
                    have HLK := Lib.hid hlk
                    clear hN hcw hlk
                    go_wp2_with fail
                    refine HCW.out.mono ?_
                    rintro e w10 ⟨rfl, v7, hC, hT, hF⟩
                    have hco := HL10.out.co.move hC (HL10.out.co.fine.learnt HS.out.1 (HG5.out k hk16).1 (HG5.out k hk16).2) hT hF
                    have HL11 := Lib.hid (HL10.out.move hco)
                    have HBX11 := Lib.hid ((hco.2.block _ (.inr rfl)).trans HBX10.out)
                    clear hC hT hF hco
                    go_wp2_with fail
                    go_roundg 1
                    case measure => omega
                    case rel => exact ⟨true, 2, _, rfl, rfl, rfl, Lib.hid ⟨v7, _, HL11.out, HBX11.out, .inr (.inr (.inr ⟨rfl, rfl, .inr rfl, HLK.out, rfl, s6.ks, by rw [HGE.out.2, HS.out.2.2.1], HS.out.2.2.2.2⟩))⟩⟩
                  · have hcw := cwalked_locked p v6 s6 (entW (atE es k)) (atE es k).1 w9 HL10.out.co.ck HS.out.1 HS.out.2.1 (by rw [HS.out.2.2.1]; omega) (by rw [HS.out.2.2.1]; omega) (by rw [HGE.out.1, HS.out.2.2.1, HS.out.2.2.2.1]; rw [hlk] at hN; exact hN)
                    rw [HS.out.2.2.2.1] at hcw
                    have HCW := Lib.hid hcw
                    have HLK := Lib.hid hlk
                    clear hN hcw hlk
                    go_wp2_with fail
                    refine HCW.out.mono ?_
                    rintro e w10 ⟨rfl, hC, hg⟩
                    have hco := HL10.out.co.move hC (HL10.out.co.fine.at1 s6.st) (Tc.of_grown hg) (fun g hg => .inl hg)
                    have HL11 := Lib.hid (HL10.out.move hco)
                    have HBX11 := Lib.hid ((hco.2.block _ (.inr rfl)).trans HBX10.out)
                    clear hC hg hco
                    go_wp2_with fail
                    go_roundg 1
                    case measure => omega
                    case rel => exact ⟨false, 2, _, rfl, rfl, rfl, Lib.hid ⟨v6, _, HL11.out, HBX11.out, .inr (.inr (.inl ⟨rfl, rfl, rfl, HLK.out⟩))⟩⟩
                · rw [HXX.out] at hlk
                  dsimp only at hlk
                  rw [hlk] at q1
                  clear hlk
                  go_wp2_with fail
                  refine (awake09 _).mono ?_
                  rintro e w9 ⟨rfl, hb⟩
                  have HB9 := Lib.hid (HL9.out.below.trans (hb.mono HL9.out.below.size))
                  clear hb
                  go_wp2_with fail
                  go_ret
                  exact ⟨rfl, HB9.out⟩
                · rw [HXX.out] at hlk hks0
                  dsimp only at hlk hks0
                  rw [hlk] at q1
                  have HD := Lib.hid (And.intro hwk (And.intro hks0 hks))
                  obtain ⟨kf, hkf, hof⟩ := learnt_last (ks := ks0) (en := n) (g := k) (o := ow) (fun f hf => by have := hks f hf; omega)
                  have HKF := Lib.hid (And.intro hkf hof)
                  clear hlk hwk hks0 hks hkf hof
                  rcases hi with rfl | rfl
                  · go_wp2_with fail
                    go_loopg [28] 4 (fun g s28 wt => ∃ j : Nat, j + g = 4 ∧ s28 = .int .i64 j ∧ Hid (Below wr.heap.size wr wt))
                    case atStart => exact ⟨0, by omega, rfl, Below.refl _ _⟩
                    case round =>
                      obtain ⟨j, hj, rfl, HW2⟩ := hrel
                      have u0 := (HW2.out.cell (p := ⟨bx, 0, none⟩) ql).trans q0
                      have ul := Nat.lt_of_lt_of_le ql HW2.out.size
                      by_cases hj4 : j < 4
                      · have ej : decide ((j : Int) ≤ 3) = true := by simp; omega
                        cases hmb : mayB j ow
                        · have hask := cask_ok p v6 s6 j k 2 _ (HL9.out.co.ck.ext HW2.out) (by omega) (by omega) (by rw [HGE.out.1]; omega) (by omega) (by omega) (.inr ⟨kf, by rw [HD.out.2.1]; exact HKF.out.1, by rw [HD.out.2.1, HKF.out.2, hmb]; rfl⟩)
                          have HASK := Lib.hid hask
                          have HMB := Lib.hid hmb
                          clear hask hmb
                          go_wp2_with fail
                          refine HASK.out.mono ?_
                          rintro e w11 ⟨rfl, hb⟩
                          have HW3 := Lib.hid (HW2.out.trans (hb.mono HW2.out.size))
                          have y0 := (hb.cell (p := ⟨bx, 0, none⟩) ul).trans u0
                          have yl := Nat.lt_of_lt_of_le ul hb.size
                          clear hb u0
                          go_wp2_with fail
                          refine (may_any j ow w11).mono ?_
                          rintro e w12 ⟨rfl, hw⟩
                          subst hw
                          rw [HMB.out]
                          go_wp2_with fail
                          go_roundg (4 - (j + 1))
                          case measure => omega
                          case rel => exact ⟨j + 1, by omega, by go_num, HW3⟩
                        · have hask := cask_ok p v6 s6 j k 1 _ (HL9.out.co.ck.ext HW2.out) (by omega) (by omega) (by rw [HGE.out.1]; omega) (by omega) (by omega) (.inr ⟨kf, by rw [HD.out.2.1]; exact HKF.out.1, by rw [HD.out.2.1, HKF.out.2, hmb]; rfl⟩)
                          have HASK := Lib.hid hask
                          have HMB := Lib.hid hmb
                          clear hask hmb
                          go_wp2_with fail
                          refine HASK.out.mono ?_
                          rintro e w11 ⟨rfl, hb⟩
                          have HW3 := Lib.hid (HW2.out.trans (hb.mono HW2.out.size))
                          have y0 := (hb.cell (p := ⟨bx, 0, none⟩) ul).trans u0
                          have yl := Nat.lt_of_lt_of_le ul hb.size
                          clear hb u0
                          go_wp2_with fail
                          refine (may_any j ow w11).mono ?_
                          rintro e w12 ⟨rfl, hw⟩
                          subst hw
                          rw [HMB.out]
                          go_wp2_with fail
                          go_roundg (4 - (j + 1))
                          case measure => omega
                          case rel => exact ⟨j + 1, by omega, by go_num, HW3⟩
                      · have ej : decide ((j : Int) ≤ 3) = false := by simp; omega
                        go_wp2_with fail
                        go_roundg (m - (k + 1))
                        case measure => omega
                        case rel =>
                          refine ⟨k + 1, by omega, by go_num, Lib.hid ⟨v6, s6, (HL9.out.ext HW2.out).weak (fun _ h => .inl h) HXB.out HXP.out.1 HXP.out.2, HD.out.1, fun f hf => ?_⟩⟩
                          rw [HD.out.2.1] at hf
                          rcases learnt_mem hf with h1 | rfl
                          · have := HD.out.2.2 f h1
                            omega
                          · dsimp only
                            omega
                  · go_wp2_with fail
                    go_loopg [28] 4 (fun g s28 wt => ∃ j : Nat, j + g = 4 ∧ s28 = .int .i64 j ∧ Hid (Below wr.heap.size wr wt))
                    case atStart => exact ⟨0, by omega, rfl, Below.refl _ _⟩
                    case round =>
                      obtain ⟨j, hj, rfl, HW2⟩ := hrel
                      have u0 := (HW2.out.cell (p := ⟨bx, 0, none⟩) ql).trans q0
                      have ul := Nat.lt_of_lt_of_le ql HW2.out.size
                      by_cases hj4 : j < 4
                      · have ej : decide ((j : Int) ≤ 3) = true := by simp; omega
                        cases hmb : mayB j ow
                        · have hask := cask_ok p v6 s6 j k 2 _ (HL9.out.co.ck.ext HW2.out) (by omega) (by omega) (by rw [HGE.out.1]; omega) (by omega) (by omega) (.inr ⟨kf, by rw [HD.out.2.1]; exact HKF.out.1, by rw [HD.out.2.1, HKF.out.2, hmb]; rfl⟩)
                          have HASK := Lib.hid hask
                          have HMB := Lib.hid hmb
                          clear hask hmb
                          go_wp2_with fail
                          refine HASK.out.mono ?_
                          rintro e w11 ⟨rfl, hb⟩
                          have HW3 := Lib.hid (HW2.out.trans (hb.mono HW2.out.size))
                          have y0 := (hb.cell (p := ⟨bx, 0, none⟩) ul).trans u0
                          have yl := Nat.lt_of_lt_of_le ul hb.size
                          clear hb u0
                          go_wp2_with fail
                          refine (may_any j ow w11).mono ?_
                          rintro e w12 ⟨rfl, hw⟩
                          subst hw
                          rw [HMB.out]
                          go_wp2_with fail
                          go_roundg (4 - (j + 1))
                          case measure => omega
                          case rel => exact ⟨j + 1, by omega, by go_num, HW3⟩
                        · have hask := cask_ok p v6 s6 j k 1 _ (HL9.out.co.ck.ext HW2.out) (by omega) (by omega) (by rw [HGE.out.1]; omega) (by omega) (by omega) (.inr ⟨kf, by rw [HD.out.2.1]; exact HKF.out.1, by rw [HD.out.2.1, HKF.out.2, hmb]; rfl⟩)
                          have HASK := Lib.hid hask
                          have HMB := Lib.hid hmb
                          clear hask hmb
                          go_wp2_with fail
                          refine HASK.out.mono ?_
                          rintro e w11 ⟨rfl, hb⟩
                          have HW3 := Lib.hid (HW2.out.trans (hb.mono HW2.out.size))
                          have y0 := (hb.cell (p := ⟨bx, 0, none⟩) ul).trans u0
                          have yl := Nat.lt_of_lt_of_le ul hb.size
                          clear hb u0
                          go_wp2_with fail
                          refine (may_any j ow w11).mono ?_
                          rintro e w12 ⟨rfl, hw⟩
                          subst hw
                          rw [HMB.out]
                          go_wp2_with fail
                          go_roundg (4 - (j + 1))
                          case measure => omega
                          case rel => exact ⟨j + 1, by omega, by go_num, HW3⟩
                      · have ej : decide ((j : Int) ≤ 3) = false := by simp; omega
                        go_wp2_with fail
                        go_roundg (m - (k + 1))
                        case measure => omega
                        case rel =>
                          refine ⟨k + 1, by omega, by go_num, Lib.hid ⟨v6, s6, (HL9.out.ext HW2.out).weak (fun _ h => .inl h) HXB.out HXP.out.1 HXP.out.2, HD.out.1, fun f hf => ?_⟩⟩
                          rw [HD.out.2.1] at hf
                          rcases learnt_mem hf with h1 | rfl
                          · have := HD.out.2.2 f h1
                            omega
                          · dsimp only
                            omega
            · have ek : decide ((k : Int) < (m : Int)) = false := by simp; omega
              go_wp2_with fail
              refine (awake09 _).mono ?_
              rintro e w6 ⟨rfl, hb⟩
              have HB6 := Lib.hid (HL6.out.below.trans (hb.mono HL6.out.below.size))
              clear hb
              go_wp2_with fail
              go_ret
              exact ⟨rfl, HB6.out⟩
      · have HWK := Lib.hid hw
        clear hw
        go_wp2_with fail
        refine (cwalking_yes p v s wr HLr.out.co.ck HWK.out).mono ?_
        rintro e w3 ⟨rfl, hb⟩
        have HL3 := Lib.hid (HLr.out.ext hb)
        clear hb
        go_wp2_with fail
        refine (awake09 _).mono ?_
        rintro e w4 ⟨rfl, hb⟩
        have HB4 := Lib.hid (HL3.out.below.trans (hb.mono HL3.out.below.size))
        clear hb
        go_wp2_with fail
        go_ret
        exact ⟨rfl, HB4.out⟩

theorem learns_walk (n m : Int) (A B : Option Addr) (l : List Op9) (l' : List En) (cap cap' : Nat) (w : World) (h : SlO w A l) (h' : SlT w B l') (hl' : l'.length ≤ maxLen) :
    Calls Try.prog 5 #[.agg #[.int .i64 n, .int .i64 m], .slice A l.length cap, .slice B l'.length cap'] w fun e w' => e = .returned (.bool true) ∧ Below w.heap.size w w' := by
  by_cases hd : may9B n m = false ∨ 80 < l.length
  · exact learns_out n m A B l.length cap l'.length cap' w hd
  · have hm : may9B n m = true := by cases hm : may9B n m <;> simp_all
    have hbd : 1 ≤ n ∧ n ≤ 8 ∧ 1 ≤ m ∧ m ≤ 16 := by simpa [may9B, and_assoc] using hm
    obtain ⟨k, rfl⟩ := Int.eq_ofNat_of_zero_le (show 0 ≤ m by omega)
    exact learns_in n k A B l l' cap cap' w h h' hm (by omega) hl'

end Go.Proofs.Ytjggnhcdnfmmeaa
