/- What this text holds: the walk of the law LaneCopies. No condition. -/
import Derived.Test.YtnablldaaajhkaaL04A
namespace Go.Proofs.Ytnablldaaajhkaa
open Go.RowKit

theorem copies_d (d : Int) (A A' : Option Addr) (m m' cap cap' : Nat) (w : World) (h : d < 1 ∨ 16 < d) :
    Calls Try.prog 8 #[.int .i64 d, .slice A m cap, .slice A' m' cap'] w fun e w' => e = .returned (.bool true) ∧ Below w.heap.size w w' := by
  rcases h with h | h
  · skip
    go_enter Try.func8, Try.ntmps8
    go_wp2_with fail
    refine (awake04 _).mono ?_
    rintro e w1 ⟨rfl, hb⟩
    go_wp2_with fail
    go_ret
    exact ⟨rfl, hb⟩
  · have e1 : decide (d < 1) = false := by simp; omega
    go_enter Try.func8, Try.ntmps8
    go_wp2_with fail
    refine (awake04 _).mono ?_
    rintro e w1 ⟨rfl, hb⟩
    go_wp2_with fail
    go_ret
    exact ⟨rfl, hb⟩
theorem copies_l (d : Int) (A A' : Option Addr) (l : List Op4) (m' cap cap' : Nat) (w : World) (h : SlP w A l) (hm : l.length ≤ maxLen) (h1 : 1 ≤ d) (h2 : d ≤ 16) (hf : ¬ fewB l) :
    Calls Try.prog 8 #[.int .i64 d, .slice A l.length cap, .slice A' m' cap'] w fun e w' => e = .returned (.bool true) ∧ Below w.heap.size w w' := by
  have H := Lib.hid h
  have HF := Lib.hid hf
  have e1 : decide (d < 1) = false := by simp; omega
  have e2 : decide (d > 16) = false := by simp; omega
  clear h hf
  go_enter Try.func8, Try.ntmps8
  go_wp2_with fail
  refine (few04_no A cap l _ H.out HF.out hm).mono ?_
  rintro e w1' ⟨rfl, hw⟩
  subst hw
  go_wp2_with fail
  refine (awake04 _).mono ?_
  rintro e w1 ⟨rfl, hb⟩
  go_wp2_with fail
  go_ret
  exact ⟨rfl, hb⟩
theorem copies_m (d : Int) (A A' : Option Addr) (l l' : List Op4) (cap cap' : Nat) (w : World) (h : SlP w A l) (h' : SlP w A' l') (hm : l'.length ≤ maxLen) (h1 : 1 ≤ d) (h2 : d ≤ 16) (hf : fewB l) (hf' : ¬ fewB l') :
    Calls Try.prog 8 #[.int .i64 d, .slice A l.length cap, .slice A' l'.length cap'] w fun e w' => e = .returned (.bool true) ∧ Below w.heap.size w w' := by
  have H := Lib.hid h
  have H' := Lib.hid h'
  have HF := Lib.hid hf
  have HF' := Lib.hid hf'
  have e1 : decide (d < 1) = false := by simp; omega
  have e2 : decide (d > 16) = false := by simp; omega
  clear h hf h' hf'
  go_enter Try.func8, Try.ntmps8
  go_wp2_with fail
  refine (few04_yes A cap l _ H.out HF.out).mono ?_
  rintro e w1' ⟨rfl, hw⟩
  subst hw
  go_wp2_with fail
  refine (few04_no A' cap' l' _ H'.out HF'.out hm).mono ?_
  rintro e w1 ⟨rfl, hw⟩
  subst hw
  go_wp2_with fail
  refine (awake04 _).mono ?_
  rintro e w1 ⟨rfl, hb⟩
  go_wp2_with fail
  go_ret
  exact ⟨rfl, hb⟩

theorem La.keep {w w' : World} {p : Nat} {d : Int} {v : Value} {xs : List Nt} (h : La w p d v xs) (hs : w.heap.size ≤ w'.heap.size) (k : ∀ g, g = p ∨ v.ownBlock = some g → w'.heap[g]? = w.heap[g]?) : La w' p d v xs :=
  h.of_blocks hs (k p (.inl rfl)) (fun g hg => k g (.inr hg))
theorem LR.keep {B : Nat} {w w' : World} {p q : Nat} {d : Int} {v v' : Value} {xs : List Nt} (h : LR B w p q d v v' xs) (hs : w.heap.size ≤ w'.heap.size) (k : ∀ g, g = p ∨ v.ownBlock = some g ∨ g = q ∨ v'.ownBlock = some g → w'.heap[g]? = w.heap[g]?) : LR B w' p q d v v' xs :=
  ⟨h.l.keep hs (fun g hg => k g (hg.elim .inl (fun h => .inr (.inl h)))), h.r.keep hs (fun g hg => k g (.inr (.inr hg))), h.pq, h.a, h.b, h.c, h.hp, h.hq, h.hv, h.hv'⟩

/-- A copy and the document's, and what All goes through, beside the lane and another of the document's that go on. -/
structure Cop4 (W ws w : World) (p po pc q b : Nat) (d : Int) (v0 vo0 vc vq vv : Value) (xs : List Nt) : Prop where
  run : ∃ v vo ys, LR W.heap.size w p po d v vo ys ∧ (ys.length : Int) ≤ d ∧ (∀ g, v.ownBlock = some g → v0.ownBlock = some g ∨ ws.heap.size ≤ g) ∧ (∀ g, vo.ownBlock = some g → vo0.ownBlock = some g ∨ ws.heap.size ≤ g)
  cr : LR W.heap.size w pc q d vc vq xs
  nv : NV w b vv xs
  below : Below W.heap.size W w
  sz : ws.heap.size ≤ w.heap.size
/-- What goes on does not touch them. -/
def Pro4 (ws : World) (p po pc q b : Nat) (v0 vo0 vc vq vv : Value) : Prop :=
  ∀ k, k = pc ∨ vc.ownBlock = some k ∨ k = q ∨ vq.ownBlock = some k ∨ k = b ∨ vv.ownBlock = some k → k < ws.heap.size ∧ k ≠ p ∧ k ≠ po ∧ v0.ownBlock ≠ some k ∧ vo0.ownBlock ≠ some k
theorem Cop4.step {W ws w w' : World} {p po pc q b : Nat} {d : Int} {v0 vo0 vc vq vv : Value} {xs : List Nt} (h : Cop4 W ws w p po pc q b d v0 vo0 vc vq vv xs) (hp : Pro4 ws p po pc q b v0 vo0 vc vq vv) {v vo v1 vo1 : Value} {ys ys1 : List Nt}
    (hP : LR W.heap.size w p po d v vo ys) (f : ∀ g, v.ownBlock = some g → v0.ownBlock = some g ∨ ws.heap.size ≤ g) (f' : ∀ g, vo.ownBlock = some g → vo0.ownBlock = some g ∨ ws.heap.size ≤ g)
    (hP1 : LR W.heap.size w' p po d v1 vo1 ys1) (hx : (ys1.length : Int) ≤ d) (t : Two w w' p po v vo v1 vo1) : Cop4 W ws w' p po pc q b d v0 vo0 vc vq vv xs := by
  have hk : ∀ k, k = pc ∨ vc.ownBlock = some k ∨ k = q ∨ vq.ownBlock = some k ∨ k = b ∨ vv.ownBlock = some k → w'.heap[k]? = w.heap[k]? := fun k hk => by
    obtain ⟨h1, h2, h3, h4, h5⟩ := hp k hk
    refine t.block k (Nat.lt_of_lt_of_le h1 h.sz) h2 h3 (fun e => ?_) (fun e => ?_)
    · rcases f k e with h | h
      · exact h4 h
      · omega
    · rcases f' k e with h | h
      · exact h5 h
      · omega
  have hsz := h.sz
  refine ⟨⟨v1, vo1, ys1, hP1, hx, fun g hg => ?_, fun g hg => ?_⟩, h.cr.keep t.size (fun g hg => hk g ?_), h.nv.keep ⟨hk b (by simp), fun g hg => hk g (by simp [hg])⟩, t.below hP h.below, Nat.le_trans h.sz t.size⟩
  · rcases t.f g hg with h | h
    · exact f g h
    · exact .inr (by omega)
  · rcases t.f' g hg with h | h
    · exact f' g h
    · exact .inr (by omega)
  · rcases hg with h | h | h | h <;> simp [h]
theorem Cop4.ext {W ws w w' : World} {p po pc q b : Nat} {d : Int} {v0 vo0 vc vq vv : Value} {xs : List Nt} (h : Cop4 W ws w p po pc q b d v0 vo0 vc vq vv xs) (hb : Below w.heap.size w w') : Cop4 W ws w' p po pc q b d v0 vo0 vc vq vv xs := by
  obtain ⟨v, vo, ys, h1, h2, h3, h4⟩ := h.run
  exact ⟨⟨v, vo, ys, h1.ext hb, h2, h3, h4⟩, h.cr.ext hb, h.nv.ext hb, h.below.trans (hb.mono h.below.size), Nat.le_trans h.sz hb.size⟩

set_option maxRecDepth 100000 in
set_option maxHeartbeats 4000000 in
theorem copies_in (d : Int) (A A' : Option Addr) (l l' : List Op4) (cap cap' : Nat) (w : World) (h : SlP w A l) (h' : SlP w A' l') (h1 : 1 ≤ d) (h2 : d ≤ 16) (hf : fewB l) (hf' : fewB l') :
    Calls Try.prog 8 #[.int .i64 d, .slice A l.length cap, .slice A' l'.length cap'] w fun e w' => e = .returned (.bool true) ∧ Below w.heap.size w w' := by
  have H := Lib.hid h
  have H' := Lib.hid h'
  have HF := Lib.hid hf
  have HF' := Lib.hid hf'
  have e1 : decide (d < 1) = false := by simp; omega
  have e2 : decide (d > 16) = false := by simp; omega
  have h60 := hf.2
  have h60' := hf'.2
  clear h hf h' hf'
  go_enter Try.func8, Try.ntmps8
  go_wp2_with fail
  refine (few04_yes A cap l _ H.out HF.out).mono ?_
  rintro e w0' ⟨rfl, hw⟩
  subst hw
  go_wp2_with fail
  refine (few04_yes A' cap' l' _ H'.out HF'.out).mono ?_
  rintro e w ⟨rfl, hw⟩
  subst hw
  go_wp2_with fail
  refine (lnew_ok d _ h1 h2).mono ?_
  rintro e w1 ⟨rfl, hL, hB⟩
  have HL := Lib.hid hL
  have HB := Lib.hid hB
  have hwl := hL.lt
  clear hL hB
  go_wp2_with fail
  obtain ⟨q, hq⟩ : ∃ q, q = w1.heap.size := ⟨_, rfl⟩
  have HS := Lib.hid (Run4.start HL.out (Nat.le_refl _) HB.out h1)
  rw [← hq] at HS
  rw [← hq]
  clear hq
  go_loopg [10] l.length (fun g8 s8 wr => ∃ k : Nat, k + g8 = l.length ∧ s8 = .int .i64 k ∧ Hid (Run4 w wr w.heap.size q d))
  case atStart => exact ⟨0, by omega, rfl, HS⟩
  case round =>
    obtain ⟨k, hk, rfl, HR⟩ := hrel
    by_cases hlt : k < l.length
    · have ek : decide ((k : Int) < (l.length : Int)) = true := by simp; omega
      obtain ⟨b, off, rfl, hb, hc⟩ := H.out.cells (by omega)
      have c0 : wr.cell? ⟨b, off + k * 3, none⟩ = some (.int .i64 (atP l k).a) := (HR.out.below.cell (p := ⟨b, off + k * 3, none⟩) hb).trans (hc k hlt 0 _ rfl)
      have c1 : wr.cell? ⟨b, off + k * 3 + 1, none⟩ = some (.int .i64 (atP l k).t) := (HR.out.below.cell (p := ⟨b, off + k * 3 + 1, none⟩) hb).trans (hc k hlt 1 _ rfl)
      have c2 : wr.cell? ⟨b, off + k * 3 + 2, none⟩ = some (.slice (atP l k).A (atP l k).ys.length (atP l k).c) := (HR.out.below.cell (p := ⟨b, off + k * 3 + 2, none⟩) hb).trans (hc k hlt 2 _ rfl)
      have hN := Lib.hid (H.out.notes k hlt)
      have h20 := HF.out.1 k hlt
      clear hc
      generalize atP l k = o at *
      obtain ⟨v, v', xs, hP, hx⟩ := HR.out.lr
      have HP := Lib.hid hP
      clear hP
      go_wp2_with fail
      refine (does_any w _ q d v v' xs o.ys o.a o.t o.A o.c _ HP.out hN.out.1 HR.out.below hN.out.2 (by omega) h2 hx h20).mono ?_
      rintro e w2 ⟨rfl, v1, v1', xs1, hP1, hx1, hT⟩
      have HR3 := Lib.hid (Run4.mk ⟨v1, v1', xs1, hP1, hx1⟩ (hT.below HP.out HR.out.below) : Run4 w w2 w.heap.size q d)
      clear hP1 hT
      go_wp2_with fail
      go_roundg (l.length - (k + 1))
      case measure => omega
      case rel => exact ⟨k + 1, by omega, by go_num, HR3⟩
    · have ek : decide ((k : Int) < (l.length : Int)) = false := by simp; omega
      obtain ⟨v, v', xs, hP, hx⟩ := HR.out.lr
      have HP := Lib.hid hP
      have HBr := Lib.hid HR.out.below
      clear hP HR
      go_wp2_with fail
      refine (lcopy_any _ d v xs _ HP.out.l (by omega)).mono ?_
      rintro e w2 ⟨pc, vc, rfl, hc, hpc, hvc, hb2⟩
      have HC := Lib.hid hc
      have HP2 := Lib.hid (HP.out.ext hb2)
      have HB2 := Lib.hid (HBr.out.trans (hb2.mono HBr.out.size))
      have hs2 := hb2.size
      have hvc' := Lib.hid hvc
      clear hc hb2 hvc
      go_wp2_with fail
      refine (allN_any _ d v xs _ HP2.out.l (by omega)).mono ?_
      rintro e w3 ⟨b, vv, rfl, hN, hbb, hvv, hb3⟩
      have HN := Lib.hid hN
      have HP3 := Lib.hid (HP2.out.ext hb3)
      have HC3 := Lib.hid (HC.out.ext hb3)
      have HB3 := Lib.hid (HB2.out.trans (hb3.mono HB2.out.size))
      have hs3 := hb3.size
      have hvv' := Lib.hid hvv
      clear hN hb3 hvv
      go_wp2_with fail
      refine (rcopy_any q d v' xs _ HP3.out.r (by omega)).mono ?_
      rintro e w4 ⟨po, vo, rfl, ho, hpo, hvo, hb4⟩
      have hpl := HP.out.l.lt
      have hql := HP.out.r.lt
      have hvl : ∀ g, v.ownBlock = some g → g < wr.heap.size := fun g hg => (HP.out.l.own.lt g hg).2
      have hvl' : ∀ g, v'.ownBlock = some g → g < wr.heap.size := fun g hg => (HP.out.r.own.lt g hg).2
      have hcl := HC.out.lt
      have hccl : ∀ g, vc.ownBlock = some g → g < w2.heap.size := fun g hg => (HC.out.own.lt g hg).2
      have hbl := HN.out.lt
      have hvvl : ∀ g, vv.ownBlock = some g → g < w3.heap.size := fun g hg => (HN.out.own.lt g hg).2
      have hs4 := hb4.size
      have hB0 := HBr.out.size
      have hcv := hvc'.out
      have hvv0 := hvv'.out
      have HPr : Hid (Pro4 w4 w.heap.size po pc q b v vo vc v' vv) := Lib.hid (fun k hk => by
        rcases hk with rfl | hk | rfl | hk | rfl | hk
        · exact ⟨by omega, by omega, by omega, fun e => by have := hvl _ e; omega, fun e => by have := hvo _ e; omega⟩
        · have := hccl k hk
          have := hcv k hk
          exact ⟨by omega, by omega, by omega, fun e => by have := hvl _ e; omega, fun e => by have := hvo _ e; omega⟩
        · exact ⟨by omega, fun e => HP.out.pq e.symm, by omega, HP.out.a, fun e => by have := hvo _ e; omega⟩
        · have := hvl' k hk
          exact ⟨by omega, fun e => HP.out.b (e ▸ hk), by omega, fun e => HP.out.c k e hk, fun e => by have := hvo _ e; omega⟩
        · exact ⟨by omega, by omega, by omega, fun e => by have := hvl _ e; omega, fun e => by have := hvo _ e; omega⟩
        · have := hvvl k hk
          have := hvv0 k hk
          exact ⟨by omega, by omega, by omega, fun e => by have := hvl _ e; omega, fun e => by have := hvo _ e; omega⟩)
      have HC4 : Hid (Cop4 w w4 w4 w.heap.size po pc q b d v vo vc v' vv xs) := Lib.hid ⟨⟨v, vo, xs, ⟨HP3.out.l.ext hb4, ho, by omega, (fun e => by have := hvl _ e; omega), (fun e => by have := hvo _ e; omega), (fun g hg e => by have := hvl _ hg; have := hvo _ e; omega), Nat.le_refl _, by omega, HP3.out.hv, (fun g hg => by have := hvo g hg; omega)⟩, hx, fun g hg => .inl hg, fun g hg => .inl hg⟩,
        ⟨HC3.out.ext hb4, HP3.out.r.ext hb4, by omega, (fun e => by have := hcv _ e; omega), (fun e => by have := hvl' _ e; omega), (fun g hg e => by have := hcv _ hg; have := hvl' _ e; omega), by omega, HP.out.hq, (fun g hg => by have := hcv g hg; omega), HP.out.hv'⟩, HN.out.ext hb4, HB3.out.trans (hb4.mono HB3.out.size), Nat.le_refl _⟩
      clear ho hb4 hvo hcv hvv0 hccl hvvl hvl hvl'
      go_wp2_with fail
      refine (same04 w.heap.size pc q d vc v' xs _ HC4.out.cr (by omega) h2 hx).mono ?_
      rintro e w5 ⟨rfl, hb5⟩
      have HC5 := Lib.hid (HC4.out.ext hb5)
      clear hb5
      go_wp2_with fail
      go_loopg [14] l'.length (fun g8 s8 wz => ∃ k : Nat, k + g8 = l'.length ∧ s8 = .int .i64 k ∧ Hid (Cop4 w w4 wz w.heap.size po pc q b d v vo vc v' vv xs))
      case atStart => exact ⟨0, by omega, rfl, HC5⟩
      case round =>
        obtain ⟨k2, hk2, rfl, HR⟩ := hrel
        by_cases hlt : k2 < l'.length
        · have ek : decide ((k2 : Int) < (l'.length : Int)) = true := by simp; omega
          obtain ⟨b', off, rfl, hb, hc⟩ := H'.out.cells (by omega)
          have c0 : wr.cell? ⟨b', off + k2 * 3, none⟩ = some (.int .i64 (atP l' k2).a) := (HR.out.below.cell (p := ⟨b', off + k2 * 3, none⟩) hb).trans (hc k2 hlt 0 _ rfl)
          have c1 : wr.cell? ⟨b', off + k2 * 3 + 1, none⟩ = some (.int .i64 (atP l' k2).t) := (HR.out.below.cell (p := ⟨b', off + k2 * 3 + 1, none⟩) hb).trans (hc k2 hlt 1 _ rfl)
          have c2 : wr.cell? ⟨b', off + k2 * 3 + 2, none⟩ = some (.slice (atP l' k2).A (atP l' k2).ys.length (atP l' k2).c) := (HR.out.below.cell (p := ⟨b', off + k2 * 3 + 2, none⟩) hb).trans (hc k2 hlt 2 _ rfl)
          have hN := Lib.hid (H'.out.notes k2 hlt)
          have h20 := HF'.out.1 k2 hlt
          clear hc
          generalize atP l' k2 = o at *
          obtain ⟨v1, vo1, ys, hP, hx1, f1, f2⟩ := HR.out.run
          have HPz := Lib.hid hP
          have F := Lib.hid (And.intro f1 f2)
          clear hP f1 f2
          go_wp2_with fail
          refine (does_any w _ po d v1 vo1 ys o.ys o.a o.t o.A o.c _ HPz.out hN.out.1 HR.out.below hN.out.2 (by omega) h2 hx1 h20).mono ?_
          rintro e w6 ⟨rfl, v2, vo2, ys2, hP2, hx2, hT⟩
          have HR6 := Lib.hid (HR.out.step HPr.out HPz.out F.out.1 F.out.2 hP2 hx2 hT)
          clear hP2 hT
          go_wp2_with fail
          go_roundg (l'.length - (k2 + 1))
          case measure => omega
          case rel => exact ⟨k2 + 1, by omega, by go_num, HR6⟩
        · have ek : decide ((k2 : Int) < (l'.length : Int)) = false := by simp; omega
          obtain ⟨A2, cap2, rfl, hsl, _⟩ := HR.out.cr.r.val
          have q1 := HR.out.cr.r.c1
          have hqz := HR.out.cr.r.lt
          have HSL := Lib.hid hsl
          obtain ⟨v1, vo1, ys, hP, hx1, _, _⟩ := HR.out.run
          have HPz := Lib.hid hP
          clear hsl hP
          go_wp2_with fail
          refine (notes_yes b vv xs A2 cap2 _ HR.out.nv HSL.out (by omega)).mono ?_
          rintro e w6 ⟨rfl, hb6⟩
          have HR6 := Lib.hid (HR.out.ext hb6)
          have HPz6 := Lib.hid (HPz.out.ext hb6)
          clear hb6
          go_wp2_with fail
          refine (same04 w.heap.size pc q d vc _ xs _ HR6.out.cr (by omega) h2 hx).mono ?_
          rintro e w7 ⟨rfl, hb7⟩
          have HR7 := Lib.hid (HR6.out.ext hb7)
          have HPz7 := Lib.hid (HPz6.out.ext hb7)
          clear hb7
          go_wp2_with fail
          refine (same04 w.heap.size _ po d v1 vo1 ys _ HPz7.out (by omega) h2 hx1).mono ?_
          rintro e w8 ⟨rfl, hb8⟩
          have HR8 := Lib.hid (HR7.out.ext hb8)
          clear hb8
          go_wp2_with fail
          refine (awake04 _).mono ?_
          rintro e w9 ⟨rfl, hb9⟩
          have HB9 := Lib.hid (HR8.out.below.trans (hb9.mono HR8.out.below.size))
          clear hb9
          go_wp2_with fail
          go_ret
          exact ⟨rfl, HB9.out⟩

theorem copies_walk (d : Int) (A A' : Option Addr) (l l' : List Op4) (cap cap' : Nat) (w : World) (h : SlP w A l) (hm : l.length ≤ maxLen) (h' : SlP w A' l') (hm' : l'.length ≤ maxLen) :
    Calls Try.prog 8 #[.int .i64 d, .slice A l.length cap, .slice A' l'.length cap'] w fun e w' => e = .returned (.bool true) ∧ Below w.heap.size w w' := by
  by_cases hd : d < 1 ∨ 16 < d
  · exact copies_d d A A' _ _ cap cap' w hd
  by_cases hf : fewB l
  · by_cases hf' : fewB l'
    · exact copies_in d A A' l l' cap cap' w h h' (by omega) (by omega) hf hf'
    · exact copies_m d A A' l l' cap cap' w h h' hm' (by omega) (by omega) hf hf'
  · exact copies_l d A A' l _ cap cap' w h hm (by omega) (by omega) hf

end Go.Proofs.Ytnablldaaajhkaa
