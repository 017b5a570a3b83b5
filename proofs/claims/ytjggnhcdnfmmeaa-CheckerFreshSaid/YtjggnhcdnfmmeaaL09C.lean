/- What this text holds: the law CheckerWorlds, walked, where it says something. No condition. -/
import Derived.Test.YtjggnhcdnfmmeaaL09B
namespace Go.Proofs.Ytjggnhcdnfmmeaa
open Go.RowKit

theorem SlO.kept {w w' : World} {A : Option Addr} {l : List Op9} {X : Nat → Prop} (h : SlO w A l) (hX : ∀ k, k < w.heap.size → X k) (hk : ∀ k, X k → w'.heap[k]? = w.heap[k]?) (hs : w.heap.size ≤ w'.heap.size) : SlO w' A l := fun h0 => by
  obtain ⟨b, off, hA, hb, hc⟩ := h h0
  have e := hk b (hX b hb)
  exact ⟨b, off, hA, by omega, fun i hi => ⟨(World.cell?_of_block (a := ⟨b, off + i * 4, none⟩) e).trans (hc i hi).1, (World.cell?_of_block (a := ⟨b, off + i * 4 + 1, none⟩) e).trans (hc i hi).2.1, (World.cell?_of_block (a := ⟨b, off + i * 4 + 2, none⟩) e).trans (hc i hi).2.2.1, (World.cell?_of_block (a := ⟨b, off + i * 4 + 3, none⟩) e).trans (hc i hi).2.2.2⟩⟩

theorem SlO.ext {w w' : World} {A : Option Addr} {l : List Op9} (h : SlO w A l) (hb : Below w.heap.size w w') : SlO w' A l := h.kept (fun _ hk => hk) hb.block hb.size

/-- Both, new. -/
theorem BB.new {n m : Int} {w w1 w2 : World} (h1 : 1 ≤ n) (h2 : n ≤ 8) (h3 : 1 ≤ m) (h4 : m ≤ 16) (hC : Ck w1 w.heap.size (.slice none 0 0) ⟨false, 0, 0, false, n, m, []⟩) (hR : Rf w2 w1.heap.size (.slice none 0 0) (.slice none 0 0) ⟨n, m, -1, 0, false, [], []⟩) (_hb1 : Below w.heap.size w w1) (hb2 : Below w1.heap.size w1 w2) :
    BB (fun k => k < w.heap.size) n m w2 w.heap.size w1.heap.size := by
  have := hC.lt
  have := hb2.size
  refine ⟨_, _, _, _, _, hC.ext hb2, ⟨rfl, rfl, h1, h2, h3, h4, by simp; omega, fun k hk => by simp at hk, by simp, fun k hk => by simp at hk, fun e => by cases e⟩, fun k hk => by omega, by omega, (fun g e => by cases e), hR, rfl, rfl, by simp; omega, by omega, (fun g e => by cases e), (fun g e => by cases e), by omega, (fun e => by cases e), (fun e => by cases e), (fun e => by cases e), (fun g e => by cases e), (fun g e => by cases e)⟩

/-- What all worlds are answered. -/
def answers (ks : List Fa) (g : Int) (a : Nat → Int) : Prop := ∀ j : Nat, j ≤ 3 → askV ks (j : Int) g (a j)
theorem answers_some (ks : List Fa) (g : Int) (ho : ∀ k ∈ ks, 0 ≤ k.2 ∧ k.2 ≤ 4) : ∃ a, answers ks g a ∧ (∀ j, a j = 1 ∨ a j = 2 ∨ a j = 3) ∧ a 0 ≠ 2 ∧
    ((Nowhere ks g ∧ cnt a 3 4 = 4) ∨ ((∃ k, AtFirst ks g k) ∧ cnt a 3 4 = 0 ∧ (cnt a 1 4 = 1 ∨ cnt a 1 4 = 2 ∨ cnt a 1 4 = 4))) := by
  rcases where_is ks g with ⟨k, hk⟩ | hn
  · obtain ⟨o0, o4⟩ := ho _ (atF_mem hk.1)
    refine ⟨fun j => if mayB j (atF ks k).2 then 1 else 2, fun j _ => .inr ⟨k, hk, rfl⟩, fun j => by dsimp only; split <;> simp, ?_, .inr ⟨⟨k, hk⟩, ?_⟩⟩
    · have : (atF ks k).2 = 0 ∨ (atF ks k).2 = 1 ∨ (atF ks k).2 = 2 ∨ (atF ks k).2 = 3 ∨ (atF ks k).2 = 4 := by omega
      rcases this with e | e | e | e | e <;> rw [e] <;> decide
    · have : (atF ks k).2 = 0 ∨ (atF ks k).2 = 1 ∨ (atF ks k).2 = 2 ∨ (atF ks k).2 = 3 ∨ (atF ks k).2 = 4 := by omega
      rcases this with e | e | e | e | e <;> rw [e] <;> decide
  · exact ⟨fun _ => 3, fun j _ => .inl ⟨hn, rfl⟩, fun j => .inr (.inr rfl), by decide, .inl ⟨hn, by decide⟩⟩

theorem cnt_succ (a : Nat → Int) (v : Int) (k : Nat) : cnt a v (k + 1) = cnt a v k + if a k = v then 1 else 0 := rfl

theorem kept_one {ks : List Fa} {g : Int} (hg : 0 ≤ g) (hn : (ks.map Prod.fst).Nodup) : ∀ k, AtFirst ks g k → (kept g ks).length + 1 = ks.length := by
  have hd : ∀ x : Int, delB g x = (x == g) := fun x => by
    have : (g == -1) = false := by simp; omega
    simp [delB, this]
  induction ks with
  | nil => intro k hk; have := hk.1; simp at this
  | cons y ys ih =>
    intro k hk
    rw [List.map_cons, List.nodup_cons] at hn
    by_cases hy : y.1 = g
    · have h1 : kept g ys = ys := kept_all (fun i hi => by
        rw [hd]
        have h2 : (atF ys i).1 ≠ g := fun e => hn.1 (List.mem_map.2 ⟨atF ys i, atF_mem hi, by rw [e, hy]⟩)
        simpa using h2)
      have h2 : kept g (y :: ys) = kept g ys := by simp [kept, hd, hy]
      rw [h2, h1]
      rfl
    · cases k with
      | zero => exact absurd hk.2.1 (by simpa [atF] using hy)
      | succ k =>
        have h2 : kept g (y :: ys) = y :: kept g ys := by simp [kept, hd, hy]
        rw [h2]
        have := ih hn.2 k ⟨by have := hk.1; simp at this; omega, by have := hk.2.1; simpa [atF] using this, fun i hi => by have := hk.2.2 (i + 1) (by omega); simpa [atF] using this⟩
        simp
        omega
theorem kept_none {ks : List Fa} {g : Int} : Nowhere (kept g ks) g := by
  rw [nowhere_iff]
  intro k hk e
  have h := (List.mem_filter.1 hk).2
  rw [e] at h
  simp [delB] at h

set_option maxRecDepth 100000 in
set_option maxHeartbeats 8000000 in
theorem worlds_in (n m g : Int) (A : Option Addr) (l : List Op9) (cap : Nat) (w : World) (h : SlO w A l) (hm : may9B n m = true) (hl : l.length ≤ 80) (h0 : 0 ≤ g) (hg : g < m) :
    Calls Try.prog 3 #[.agg #[.int .i64 n, .int .i64 m], .slice A l.length cap, .int .i64 g] w fun e w' => e = .returned (.bool true) ∧ Below w.heap.size w w' := by
  have hbd : 1 ≤ n ∧ n ≤ 8 ∧ 1 ≤ m ∧ m ≤ 16 := by simpa [may9B, and_assoc] using hm
  obtain ⟨b1, b2, b3, b4⟩ := hbd
  obtain ⟨W, hW⟩ : ∃ W, W = w.alloc (.cells #[.int .i64 n, .int .i64 m] 22) := ⟨_, rfl⟩
  have hbx : W.heap[w.heap.size]? = some (.cells #[.int .i64 n, .int .i64 m] 22 (0, 0)) := by rw [hW]; exact alNew rfl
  have HBX := Lib.hid hbx
  obtain ⟨c0, c1, cl⟩ := cells2 hbx
  have HB := Lib.hid (show Below w.heap.size w W by rw [hW]; exact ext_alloc _ (Below.refl _ _))
  have HW := Lib.hid hW
  have H := Lib.hid h
  have HM := Lib.hid hm
  have e1 : decide ((l.length : Int) ≤ 80) = true := by simp; omega
  have e2 : decide (g < 0) = false := by simp; omega
  have e3 : decide (g ≥ m) = false := by simp; omega
  clear hW hbx h hm
  go_enter Try.func3, Try.ntmps3
  go_wp2_with (rw [← HW.out])
  refine (may9_any n m W).mono ?_
  rintro e w1 ⟨rfl, hw⟩
  subst hw
  rw [HM.out]
  go_wp2_with fail
  refine (few9_any A l.length cap _).mono ?_
  rintro e w0 ⟨rfl, hw⟩
  subst hw
  rw [e1]
  go_wp2_with fail
  refine (cnew_ok n m w0 b1 b2 b3 b4).mono ?_
  rintro e w1 ⟨rfl, hC, hb⟩
  have HC := Lib.hid hC
  have HB1 := Lib.hid hb
  obtain ⟨d0, d1, dl⟩ := cells2 ((hb.block _ cl).trans HBX.out)
  clear hC hb c0 c1
  go_wp2_with fail
  refine (rnew n m w1).mono ?_
  rintro e w2 ⟨rfl, hR, hb⟩
  have HQ := Lib.hid (BB.new b1 b2 b3 b4 HC.out hR HB1.out hb)
  have HB2 := Lib.hid (ext_trans HB.out (ext_trans HB1.out hb))
  have HS := Lib.hid (H.out.ext HB2.out)
  clear hR hb d0 d1 dl
  go_wp2_with fail
  go_loopg [10] l.length (fun g10 s10 wr => ∃ k : Nat, k + g10 = l.length ∧ s10 = .int .i64 k ∧ Hid (BB (fun j => j < w0.heap.size) n m wr w0.heap.size w1.heap.size) ∧ Hid (Kp (fun j => j < w0.heap.size) w2 wr))
  case atStart => exact ⟨0, by omega, rfl, HQ, Lib.hid ⟨rfl, rfl, rfl, Nat.le_refl _, fun _ _ => rfl⟩⟩
  case round =>
    obtain ⟨k, hk, rfl, HQ1, HK1⟩ := hrel
    by_cases hlt : k < l.length
    · have ek : decide ((k : Int) < (l.length : Int)) = true := by simp; omega
      obtain ⟨b, off, rfl, hb, hc⟩ := H.out (by omega)
      have hb2 : (b < w0.heap.size) := Nat.lt_of_lt_of_le hb HB.out.size
      have hcc := hc k hlt
      have eb := (HK1.out.block b hb2).trans (HB2.out.block b hb)
      have k0 := (World.cell?_of_block (a := ⟨b, off + k * 4, none⟩) eb).trans hcc.1
      have k1 := (World.cell?_of_block (a := ⟨b, off + k * 4 + 1, none⟩) eb).trans hcc.2.1
      have k2 := (World.cell?_of_block (a := ⟨b, off + k * 4 + 2, none⟩) eb).trans hcc.2.2.1
      have k3 := (World.cell?_of_block (a := ⟨b, off + k * 4 + 3, none⟩) eb).trans hcc.2.2.2
      have hbr : b < wr.heap.size := by have := HK1.out.size; have := HB2.out.size; omega
      clear hc hcc eb
      generalize atO l k = o at k0 k1 k2 k3
      go_wp2_with fail
      refine (does_weak _ n m _ _ o.k o.g o.x o.y wr HQ1.out).mono ?_
      rintro e w3 ⟨⟨bb, rfl⟩, hq, hkp⟩
      have HQ3 := Lib.hid hq
      have HK3 := Lib.hid (HK1.out.trans hkp)
      clear hq hkp k0 k1 k2 k3
      go_wp2_with fail
      go_roundg (l.length - (k + 1))
      case measure => omega
      case rel => exact ⟨k + 1, by omega, by go_num, HQ3, HK3⟩
    · have ek : decide ((k : Int) < (l.length : Int)) = false := by simp; omega
      obtain ⟨v, s, u, u', t, hbo⟩ := HQ1.out
      obtain ⟨an, ha1, ha2, ha3, ha4⟩ := answers_some s.ks g hbo.fine.own
      have HBO := Lib.hid hbo
      have HA1 := Lib.hid ha1
      have HA2 := Lib.hid ha2
      have HA3 := Lib.hid ha3
      have HA4 := Lib.hid ha4
      have HBR : Hid (Below w.heap.size w wr) := Lib.hid ⟨HK1.out.os.trans HB2.out.os, HK1.out.tape.trans HB2.out.tape, HK1.out.output.trans HB2.out.output, Nat.le_trans HB2.out.size HK1.out.size, fun k hk => (HK1.out.block k (by have := HB.out.size; show k < w0.heap.size; omega)).trans (HB2.out.block k hk)⟩
      clear hbo ha1 ha2 ha3 ha4 HQ1 HK1
      go_wp2_with fail
      go_loopg [11, 12, 13] 4 (fun g10 s11 s12 s13 wt => ∃ k : Nat, k + g10 = 4 ∧ s13 = .int .i64 k ∧ s11 = .int .i64 (cnt an 1 k) ∧ s12 = .int .i64 (cnt an 3 k) ∧ Hid (Below wr.heap.size wr wt))
      case atStart => exact ⟨0, by omega, rfl, rfl, rfl, Below.refl _ _⟩
      case round =>
        obtain ⟨k, hk, rfl, rfl, rfl, HW2⟩ := hrel
        by_cases hlt : k < 4
        · have ek : decide ((k : Int) ≤ 3) = true := by simp; omega
          have hask := cask_ok _ v s k g (an k) _ (HBO.out.ck.ext HW2.out) (by have := klen HBO.out; omega) h0 (by rw [HBO.out.fine.gr]; exact hg) (by omega) (by omega) (HA1.out k (by omega))
          go_wp2_with fail
          refine hask.mono ?_
          clear hask
          rintro e w3 ⟨rfl, hb⟩
          have HW3 := Lib.hid (HW2.out.trans (hb.mono HW2.out.size))
          have hs1 := cnt_succ an 1 k
          have hs3 := cnt_succ an 3 k
          have hb1 := cnt_bd an 1 k
          have hb3 := cnt_bd an 3 k
          clear hb
          rcases HA2.out k with hz | hz | hz
          · rw [hz] at hs1 hs3 ⊢
            simp at hs1 hs3
            go_wp2_with fail
            go_roundg (4 - (k + 1))
            case measure => omega
            case rel => exact ⟨k + 1, by omega, by go_num, by rw [hs1], by rw [hs3], HW3⟩
          · have hk0 : k ≠ 0 := fun e => HA3.out (by rw [← e]; exact hz)
            have ek0 : ((k : Int) == 0) = false := by simp; omega
            rw [hz] at hs1 hs3 ⊢
            simp at hs1 hs3
            go_wp2_with fail
            go_roundg (4 - (k + 1))
            case measure => omega
            case rel => exact ⟨k + 1, by omega, by go_num, by rw [hs1], by rw [hs3], HW3⟩
          · rw [hz] at hs1 hs3 ⊢
            simp at hs1 hs3
            go_wp2_with fail
            go_roundg (4 - (k + 1))
            case measure => omega
            case rel => exact ⟨k + 1, by omega, by go_num, by rw [hs1], by rw [hs3], HW3⟩
        · have hk4 : k = 4 := by omega
          subst hk4
          have hkl := klen HBO.out
          have hdrop := cdrop_ok _ v s g _ (HBO.out.ck.ext HW2.out) (by omega) (by omega) (by rw [HBO.out.fine.gr]; exact hg)
          have hcase : (cnt an 3 4 = 4 ∧ ((s.ks.length : Int) - (kept g s.ks).length) = 0 ∧ ∃ z, z = cnt an 1 4) ∨ (cnt an 3 4 = 0 ∧ ((s.ks.length : Int) - (kept g s.ks).length) = 1 ∧ (cnt an 1 4 = 1 ∨ cnt an 1 4 = 2 ∨ cnt an 1 4 = 4)) := by
            rcases HA4.out with ⟨hn, hc⟩ | ⟨⟨j, hj⟩, hc, hc2⟩
            · refine .inl ⟨hc, ?_, _, rfl⟩
              have : kept g s.ks = s.ks := kept_all (fun i hi => by
                have := hn i hi
                have h1 : (g == -1) = false := by simp; omega
                simp [delB, h1, this])
              rw [this]
              omega
            · refine .inr ⟨hc, ?_, hc2⟩
              have := kept_one h0 HBO.out.fine.one j hj
              omega
          have HCA := Lib.hid hcase
          have HDR := Lib.hid hdrop
          clear hcase hdrop
          generalize cnt an 1 4 = hv at HCA
          generalize cnt an 3 4 = mv at HCA
          generalize ((s.ks.length : Int) - (kept g s.ks).length) = dv at HCA HDR
          rcases HCA.out with ⟨rfl, rfl, _⟩ | ⟨rfl, rfl, rfl | rfl | rfl⟩
          · clear HCA
            go_wp2_with fail
            refine HDR.out.mono ?_
            rintro e w4 ⟨rfl, v', hC4, hT4, _⟩
            have HC4 := Lib.hid hC4
            have HB4 := Lib.hid (show Below w.heap.size w w4 from ⟨hT4.os.trans (HBR.out.trans (HW2.out.mono HBR.out.size)).os, hT4.tape.trans (HBR.out.trans (HW2.out.mono HBR.out.size)).tape, hT4.output.trans (HBR.out.trans (HW2.out.mono HBR.out.size)).output, Nat.le_trans (HBR.out.trans (HW2.out.mono HBR.out.size)).size hT4.size, fun q hq => (hT4.block q (Nat.lt_of_lt_of_le hq (HBR.out.trans (HW2.out.mono HBR.out.size)).size) (by have := HB.out.size; omega) (fun e => HBO.out.bv q e.symm (by show q < w0.heap.size; have := HB.out.size; omega))).trans ((HBR.out.trans (HW2.out.mono HBR.out.size)).block q hq)⟩)
            clear hC4 hT4
            go_wp2_with fail
            go_loopg [18] 4 (fun g10 s18 wt => ∃ k : Nat, k + g10 = 4 ∧ s18 = .int .i64 k ∧ Hid (Below w4.heap.size w4 wt))
            case atStart => exact ⟨0, by omega, rfl, Below.refl _ _⟩
            case round =>
              obtain ⟨k, hk, rfl, HW5⟩ := hrel
              by_cases hlt : k < 4
              · have ek : decide ((k : Int) ≤ 3) = true := by simp; omega
                have hask := cask_ok _ v' (dropt s g) k g 3 _ (HC4.out.ext HW5.out) (by have := kept_len g s.ks; show (kept g s.ks).length ≤ 100; omega) h0 (by show g < s.gr; rw [HBO.out.fine.gr]; exact hg) (by omega) (by omega) (.inl ⟨kept_none, rfl⟩)
                go_wp2_with fail
                refine hask.mono ?_
                clear hask
                rintro e w6 ⟨rfl, hb⟩
                have HW6 := Lib.hid (HW5.out.trans (hb.mono HW5.out.size))
                clear hb
                go_wp2_with fail
                go_roundg (4 - (k + 1))
                case measure => omega
                case rel => exact ⟨k + 1, by omega, by go_num, HW6⟩
              · have ek : decide ((k : Int) ≤ 3) = false := by simp; omega
                go_wp2_with fail
                refine (awake09 _).mono ?_
                rintro e w7 ⟨rfl, hb⟩
                have HB7 := Lib.hid (HB4.out.trans ((HW5.out.trans (hb.mono HW5.out.size)).mono HB4.out.size))
                clear hb
                go_wp2_with fail
                go_ret
                exact ⟨rfl, HB7.out⟩
          · clear HCA
            go_wp2_with fail
            refine HDR.out.mono ?_
            rintro e w4 ⟨rfl, v', hC4, hT4, _⟩
            have HC4 := Lib.hid hC4
            have HB4 := Lib.hid (show Below w.heap.size w w4 from ⟨hT4.os.trans (HBR.out.trans (HW2.out.mono HBR.out.size)).os, hT4.tape.trans (HBR.out.trans (HW2.out.mono HBR.out.size)).tape, hT4.output.trans (HBR.out.trans (HW2.out.mono HBR.out.size)).output, Nat.le_trans (HBR.out.trans (HW2.out.mono HBR.out.size)).size hT4.size, fun q hq => (hT4.block q (Nat.lt_of_lt_of_le hq (HBR.out.trans (HW2.out.mono HBR.out.size)).size) (by have := HB.out.size; omega) (fun e => HBO.out.bv q e.symm (by show q < w0.heap.size; have := HB.out.size; omega))).trans ((HBR.out.trans (HW2.out.mono HBR.out.size)).block q hq)⟩)
            clear hC4 hT4
            go_wp2_with fail
            go_loopg [18] 4 (fun g10 s18 wt => ∃ k : Nat, k + g10 = 4 ∧ s18 = .int .i64 k ∧ Hid (Below w4.heap.size w4 wt))
            case atStart => exact ⟨0, by omega, rfl, Below.refl _ _⟩
            case round =>
              obtain ⟨k, hk, rfl, HW5⟩ := hrel
              by_cases hlt : k < 4
              · have ek : decide ((k : Int) ≤ 3) = true := by simp; omega
                have hask := cask_ok _ v' (dropt s g) k g 3 _ (HC4.out.ext HW5.out) (by have := kept_len g s.ks; show (kept g s.ks).length ≤ 100; omega) h0 (by show g < s.gr; rw [HBO.out.fine.gr]; exact hg) (by omega) (by omega) (.inl ⟨kept_none, rfl⟩)
                go_wp2_with fail
                refine hask.mono ?_
                clear hask
                rintro e w6 ⟨rfl, hb⟩
                have HW6 := Lib.hid (HW5.out.trans (hb.mono HW5.out.size))
                clear hb
                go_wp2_with fail
                go_roundg (4 - (k + 1))
                case measure => omega
                case rel => exact ⟨k + 1, by omega, by go_num, HW6⟩
              · have ek : decide ((k : Int) ≤ 3) = false := by simp; omega
                go_wp2_with fail
                refine (awake09 _).mono ?_
                rintro e w7 ⟨rfl, hb⟩
                have HB7 := Lib.hid (HB4.out.trans ((HW5.out.trans (hb.mono HW5.out.size)).mono HB4.out.size))
                clear hb
                go_wp2_with fail
                go_ret
                exact ⟨rfl, HB7.out⟩
          · clear HCA
            go_wp2_with fail
            refine HDR.out.mono ?_
            rintro e w4 ⟨rfl, v', hC4, hT4, _⟩
            have HC4 := Lib.hid hC4
            have HB4 := Lib.hid (show Below w.heap.size w w4 from ⟨hT4.os.trans (HBR.out.trans (HW2.out.mono HBR.out.size)).os, hT4.tape.trans (HBR.out.trans (HW2.out.mono HBR.out.size)).tape, hT4.output.trans (HBR.out.trans (HW2.out.mono HBR.out.size)).output, Nat.le_trans (HBR.out.trans (HW2.out.mono HBR.out.size)).size hT4.size, fun q hq => (hT4.block q (Nat.lt_of_lt_of_le hq (HBR.out.trans (HW2.out.mono HBR.out.size)).size) (by have := HB.out.size; omega) (fun e => HBO.out.bv q e.symm (by show q < w0.heap.size; have := HB.out.size; omega))).trans ((HBR.out.trans (HW2.out.mono HBR.out.size)).block q hq)⟩)
            clear hC4 hT4
            go_wp2_with fail
            go_loopg [18] 4 (fun g10 s18 wt => ∃ k : Nat, k + g10 = 4 ∧ s18 = .int .i64 k ∧ Hid (Below w4.heap.size w4 wt))
            case atStart => exact ⟨0, by omega, rfl, Below.refl _ _⟩
            case round =>
              obtain ⟨k, hk, rfl, HW5⟩ := hrel
              by_cases hlt : k < 4
              · have ek : decide ((k : Int) ≤ 3) = true := by simp; omega
                have hask := cask_ok _ v' (dropt s g) k g 3 _ (HC4.out.ext HW5.out) (by have := kept_len g s.ks; show (kept g s.ks).length ≤ 100; omega) h0 (by show g < s.gr; rw [HBO.out.fine.gr]; exact hg) (by omega) (by omega) (.inl ⟨kept_none, rfl⟩)
                go_wp2_with fail
                refine hask.mono ?_
                clear hask
                rintro e w6 ⟨rfl, hb⟩
                have HW6 := Lib.hid (HW5.out.trans (hb.mono HW5.out.size))
                clear hb
                go_wp2_with fail
                go_roundg (4 - (k + 1))
                case measure => omega
                case rel => exact ⟨k + 1, by omega, by go_num, HW6⟩
              · have ek : decide ((k : Int) ≤ 3) = false := by simp; omega
                go_wp2_with fail
                refine (awake09 _).mono ?_
                rintro e w7 ⟨rfl, hb⟩
                have HB7 := Lib.hid (HB4.out.trans ((HW5.out.trans (hb.mono HW5.out.size)).mono HB4.out.size))
                clear hb
                go_wp2_with fail
                go_ret
                exact ⟨rfl, HB7.out⟩
          · clear HCA
            go_wp2_with fail
            refine HDR.out.mono ?_
            rintro e w4 ⟨rfl, v', hC4, hT4, _⟩
            have HC4 := Lib.hid hC4
            have HB4 := Lib.hid (show Below w.heap.size w w4 from ⟨hT4.os.trans (HBR.out.trans (HW2.out.mono HBR.out.size)).os, hT4.tape.trans (HBR.out.trans (HW2.out.mono HBR.out.size)).tape, hT4.output.trans (HBR.out.trans (HW2.out.mono HBR.out.size)).output, Nat.le_trans (HBR.out.trans (HW2.out.mono HBR.out.size)).size hT4.size, fun q hq => (hT4.block q (Nat.lt_of_lt_of_le hq (HBR.out.trans (HW2.out.mono HBR.out.size)).size) (by have := HB.out.size; omega) (fun e => HBO.out.bv q e.symm (by show q < w0.heap.size; have := HB.out.size; omega))).trans ((HBR.out.trans (HW2.out.mono HBR.out.size)).block q hq)⟩)
            clear hC4 hT4
            go_wp2_with fail
            go_loopg [18] 4 (fun g10 s18 wt => ∃ k : Nat, k + g10 = 4 ∧ s18 = .int .i64 k ∧ Hid (Below w4.heap.size w4 wt))
            case atStart => exact ⟨0, by omega, rfl, Below.refl _ _⟩
            case round =>
              obtain ⟨k, hk, rfl, HW5⟩ := hrel
              by_cases hlt : k < 4
              · have ek : decide ((k : Int) ≤ 3) = true := by simp; omega
                have hask := cask_ok _ v' (dropt s g) k g 3 _ (HC4.out.ext HW5.out) (by have := kept_len g s.ks; show (kept g s.ks).length ≤ 100; omega) h0 (by show g < s.gr; rw [HBO.out.fine.gr]; exact hg) (by omega) (by omega) (.inl ⟨kept_none, rfl⟩)
                go_wp2_with fail
                refine hask.mono ?_
                clear hask
                rintro e w6 ⟨rfl, hb⟩
                have HW6 := Lib.hid (HW5.out.trans (hb.mono HW5.out.size))
                clear hb
                go_wp2_with fail
                go_roundg (4 - (k + 1))
                case measure => omega
                case rel => exact ⟨k + 1, by omega, by go_num, HW6⟩
              · have ek : decide ((k : Int) ≤ 3) = false := by simp; omega
                go_wp2_with fail
                refine (awake09 _).mono ?_
                rintro e w7 ⟨rfl, hb⟩
                have HB7 := Lib.hid (HB4.out.trans ((HW5.out.trans (hb.mono HW5.out.size)).mono HB4.out.size))
                clear hb
                go_wp2_with fail
                go_ret
                exact ⟨rfl, HB7.out⟩

theorem worlds_walk (n m g : Int) (A : Option Addr) (l : List Op9) (cap : Nat) (w : World) (h : SlO w A l) :
    Calls Try.prog 3 #[.agg #[.int .i64 n, .int .i64 m], .slice A l.length cap, .int .i64 g] w fun e w' => e = .returned (.bool true) ∧ Below w.heap.size w w' := by
  by_cases hd : may9B n m = false ∨ 80 < l.length ∨ g < 0 ∨ m ≤ g
  · exact worlds_out n m g A l.length cap w hd
  · exact worlds_in n m g A l cap w h (by cases hm : may9B n m <;> simp_all) (by omega) (by omega) (by omega)

end Go.Proofs.Ytjggnhcdnfmmeaa
