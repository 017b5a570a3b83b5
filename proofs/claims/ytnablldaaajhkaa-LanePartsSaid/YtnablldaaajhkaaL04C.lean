/- What this text holds: the walk of the law LaneParts. No condition. -/
import Derived.Test.YtnablldaaajhkaaLanS
namespace Go.Proofs.Ytnablldaaajhkaa
open Go.RowKit

theorem parts_out (d : Int) (A A' : Option Addr) (m m' cap cap' : Nat) (w : World) (h : d < 1 ∨ 16 < d ∨ 20 < m ∨ 20 < m') :
    Calls Try.prog 6 #[.int .i64 d, .slice A m cap, .slice A' m' cap'] w fun e w' => e = .returned (.bool true) ∧ Below w.heap.size w w' := by
  by_cases h1 : d < 1
  · clear h
    go_enter Try.func6, Try.ntmps6
    go_wp2_with fail
    refine (awake04 _).mono ?_
    rintro e w1 ⟨rfl, hb⟩
    go_wp2_with fail
    go_ret
    exact ⟨rfl, hb⟩
  have e1 : decide (d < 1) = false := by simp; omega
  by_cases h2 : 16 < d
  · clear h
    go_enter Try.func6, Try.ntmps6
    go_wp2_with fail
    refine (awake04 _).mono ?_
    rintro e w1 ⟨rfl, hb⟩
    go_wp2_with fail
    go_ret
    exact ⟨rfl, hb⟩
  have e2 : decide (d > 16) = false := by simp; omega
  by_cases h3 : 20 < m
  · have e3 : decide ((m : Int) > 20) = true := by simp; omega
    clear h
    go_enter Try.func6, Try.ntmps6
    go_wp2_with fail
    refine (awake04 _).mono ?_
    rintro e w1 ⟨rfl, hb⟩
    go_wp2_with fail
    go_ret
    exact ⟨rfl, hb⟩
  have e3 : decide ((m : Int) > 20) = false := by simp; omega
  have e4 : decide ((m' : Int) > 20) = true := by simp; omega
  clear h
  go_enter Try.func6, Try.ntmps6
  go_wp2_with fail
  refine (awake04 _).mono ?_
  rintro e w1 ⟨rfl, hb⟩
  go_wp2_with fail
  go_ret
  exact ⟨rfl, hb⟩

theorem row_slN {w : World} {base : Nat} {A : Option Addr} {n c : Nat} {xs : List Nt} (h : w.ownsRow base 45 9 (.slice A n c) xs.length (flatN xs)) : SlN w A xs := by
  rcases h.2 with ⟨hv, h0⟩ | ⟨g, cap, cur, hv, hb, hg, hc1, hc2, hc3, hc4⟩
  · intro h1
    omega
  · obtain ⟨rfl, _, _⟩ := Value.slice.inj hv
    refine fun _ => ⟨g, 0, rfl, (Array.getElem?_eq_some_iff.1 hg).1, fun i hi j u hu => ?_⟩
    have hj : j < 9 := (List.getElem?_eq_some_iff.1 hu).1
    have h1 := flatN_at xs i j hi hj
    rw [hu, ← hc4, List.getElem?_take, if_pos (by omega)] at h1
    unfold World.cell?
    rw [hg, Nat.zero_add]
    simpa using h1

/-- Two lanes and a list of notes. -/
structure Par4 (W w : World) (p q : Nat) (d : Int) (vx vy v3 : Value) (xs ys zs : List Nt) : Prop where
  x : La w p d vx xs
  y : La w q d vy ys
  r : w.ownsRow 0 45 9 v3 zs.length (flatN zs)
  below : Below W.heap.size W w
  hp : W.heap.size ≤ p
  hq : W.heap.size ≤ q
  pq : p ≠ q
  hx : ∀ g, vx.ownBlock = some g → W.heap.size ≤ g ∧ g ≠ q ∧ v3.ownBlock ≠ some g ∧ vy.ownBlock ≠ some g
  hy : ∀ g, vy.ownBlock = some g → W.heap.size ≤ g ∧ g ≠ p ∧ v3.ownBlock ≠ some g
  h3 : v3.ownBlock ≠ some p ∧ v3.ownBlock ≠ some q
theorem Par4.ext {W w w' : World} {p q : Nat} {d : Int} {vx vy v3 : Value} {xs ys zs : List Nt} (h : Par4 W w p q d vx vy v3 xs ys zs) (hb : Below w.heap.size w w') : Par4 W w' p q d vx vy v3 xs ys zs :=
  ⟨h.x.ext hb, h.y.ext hb, row_keep h.r (fun g hg => hb.block g (h.r.lt g hg).2), h.below.trans (hb.mono h.below.size), h.hp, h.hq, h.pq, h.hx, h.hy, h.h3⟩
theorem Par4.putx {W w w' : World} {p q : Nat} {d : Int} {vx vy v3 v' : Value} {xs ys zs xs' : List Nt} (h : Par4 W w p q d vx vy v3 xs ys zs) (hl : La w' p d v' xs') (t : Tch w w' p vx.ownBlock) (hf : ∀ g, v'.ownBlock = some g → vx.ownBlock = some g ∨ w.heap.size ≤ g) : Par4 W w' p q d v' vy v3 xs' ys zs := by
  refine ⟨hl, h.y.tch t (fun e => h.pq e.symm) (fun e => (h.hx _ e).2.1 rfl) (fun e => (h.hy _ e).2.1 rfl) (fun g hg e => (h.hx _ e).2.2.2 hg), row_keep h.r (fun g hg => t.block g (h.r.lt g hg).2 (fun e => h.h3.1 (e ▸ hg)) (fun e => (h.hx g e.symm).2.2.1 hg)), t.below h.below h.hp (fun g hg => (h.hx g hg).1), h.hp, h.hq, h.pq, fun g hg => ?_, h.hy, h.h3⟩
  rcases hf g hg with h1 | h1
  · exact h.hx g h1
  · have := h.below.size
    have h2 := h.y.lt
    refine ⟨by omega, by omega, fun e => ?_, fun e => ?_⟩
    · have := (h.r.lt g e).2; omega
    · have := (h.y.own.lt g e).2; omega
theorem Par4.puty {W w w' : World} {p q : Nat} {d : Int} {vx vy v3 v' : Value} {xs ys zs ys' : List Nt} (h : Par4 W w p q d vx vy v3 xs ys zs) (hl : La w' q d v' ys') (t : Tch w w' q vy.ownBlock) (hf : ∀ g, v'.ownBlock = some g → vy.ownBlock = some g ∨ w.heap.size ≤ g) : Par4 W w' p q d vx v' v3 xs ys' zs := by
  refine ⟨h.x.tch t h.pq (fun e => (h.hy _ e).2.1 rfl) (fun e => (h.hx _ e).2.1 rfl) (fun g hg e => (h.hx _ hg).2.2.2 e), hl, row_keep h.r (fun g hg => t.block g (h.r.lt g hg).2 (fun e => h.h3.2 (e ▸ hg)) (fun e => (h.hy g e.symm).2.2 hg)), t.below h.below h.hq (fun g hg => (h.hy g hg).1), h.hp, h.hq, h.pq, fun g hg => ⟨(h.hx g hg).1, (h.hx g hg).2.1, (h.hx g hg).2.2.1, fun e => ?_⟩, fun g hg => ?_, h.h3⟩
  · rcases hf g e with h1 | h1
    · exact (h.hx g hg).2.2.2 h1
    · have := (h.x.own.lt g hg).2; omega
  · rcases hf g hg with h1 | h1
    · exact h.hy g h1
    · have := h.below.size
      have h2 := h.x.lt
      refine ⟨by omega, by omega, fun e => ?_⟩
      have := (h.r.lt g e).2; omega

set_option maxRecDepth 100000 in
set_option maxHeartbeats 4000000 in
theorem parts_in (d : Int) (A A' : Option Addr) (xs ys : List Nt) (cap cap' : Nat) (w : World) (h : SlN w A xs) (hc : A = none → cap = 0) (h' : SlN w A' ys) (hc' : A' = none → cap' = 0) (h1 : 1 ≤ d) (h2 : d ≤ 16) (hx : xs.length ≤ 20) (hy : ys.length ≤ 20) :
    Calls Try.prog 6 #[.int .i64 d, .slice A xs.length cap, .slice A' ys.length cap'] w fun e w' => e = .returned (.bool true) ∧ Below w.heap.size w w' := by
  have H := Lib.hid h
  have H' := Lib.hid h'
  have HC := Lib.hid hc
  have HC' := Lib.hid hc'
  have HN := Lib.hid (h.none0 hc)
  have HN' := Lib.hid (h'.none0 hc')
  have e1 : decide (d < 1) = false := by simp; omega
  have e2 : decide (d > 16) = false := by simp; omega
  have e3 : decide ((xs.length : Int) > 20) = false := by simp; omega
  have e4 : decide ((ys.length : Int) > 20) = false := by simp; omega
  obtain ⟨i0, hi, hz0, hz1, hz2⟩ := info_parts info_note
  clear h hc h' hc'
  go_enter Try.func6, Try.ntmps6
  go_wp2_with fail
  refine (lnew_ok d _ h1 h2).mono ?_
  rintro e w1 ⟨rfl, hL1, hB1⟩
  have HL1 := Lib.hid hL1
  have HB1 := Lib.hid hB1
  have hl1 := hL1.lt
  clear hL1 hB1
  go_wp2_with fail
  refine (lnew_ok d _ h1 h2).mono ?_
  rintro e w2 ⟨rfl, hL2, hB2⟩
  have HL2 := Lib.hid hL2
  have HX2 := Lib.hid (HL1.out.ext hB2)
  have HB2 := Lib.hid (ext_trans HB1.out hB2)
  have hl2 := hL2.lt
  clear hL2 hB2
  go_wp2_with (at_builtin; refine wpList_append_full _ rfl _ _ 31 rfl w2.heap.size 45 i0 Nt.zero.val 9 72 Try.underlying31 hi hz0 hz1 hz2 rfl (by decide) (.slice none 0 0) 0 [] rfl (World.ownsRow_nil _ _ _ _) A xs.length cap (flatN xs) rfl HN.out (flatN_len xs) (H.out.ext HB2.out).full (flatN_one _) ?c3 ?c4 ?c5 ?_)
  case c3 => unfold maxLen; omega
  case c4 => omega
  case c5 => exact Nat.le_refl _
  intro A3 c3 w3 h3 ho3 hg3 hf3
  have hB3 : Below w2.heap.size w2 w3 := (Below.refl _ _).grown hg3 (Nat.le_refl _) (fun k e => by cases e)
  have HO3 : Hid (w3.ownsRow w2.heap.size 45 9 (.slice A3 xs.length c3) xs.length (flatN xs)) := Lib.hid (by simpa using ho3)
  have HB3 := Lib.hid hB3
  clear h3 ho3 hg3 hf3 hB3
  go_wp2_with (at_builtin; refine wpList_append_full _ rfl _ _ 31 rfl w2.heap.size 45 i0 Nt.zero.val 9 72 Try.underlying31 hi hz0 hz1 hz2 rfl (by decide) (.slice A3 xs.length c3) xs.length (flatN xs) rfl HO3.out A' ys.length cap' (flatN ys) rfl HN'.out (flatN_len ys) (H'.out.ext (ext_trans HB2.out HB3.out)).full (flatN_one _) ?c3 ?c4 ?c5 ?_)
  case c3 => unfold maxLen; omega
  case c4 => omega
  case c5 => exact HB3.out.size
  intro A4 c4 w4 h4 ho4 hg4 hf4
  have hB4 : Below w2.heap.size w2 w4 := below_row HB3.out (Nat.le_refl _) HO3.out hg4
  have hown4 : ∀ g, (Value.slice A4 (xs.length + ys.length) c4).ownBlock = some g → w2.heap.size ≤ g := fun g hg => (ho4.lt g hg).1
  have HP : Hid (Par4 w w4 w.heap.size w1.heap.size d (.slice none 0 0) (.slice none 0 0) (.slice A4 (xs.length + ys.length) c4) [] [] (xs ++ ys)) := Lib.hid ⟨HX2.out.ext hB4, HL2.out.ext hB4, row_mono (by rw [List.length_append, flatN_app]; exact ho4) (Nat.zero_le _), ext_trans HB2.out hB4, Nat.le_refl _, by omega, by omega, (fun g hg => by cases hg), (fun g hg => by cases hg), (fun e => by have := hown4 _ e; omega), (fun e => by have := hown4 _ e; omega)⟩
  have h4' := Lib.hid h4
  clear h4 ho4 hg4 hf4 hB4 hown4
  by_cases hb : (xs.length : Int) + ys.length ≤ d
  · have HP0 := HP
    have ha : (xs.length : Int) ≤ d := by omega
    go_wp2_with fail
    refine (put_ok _ d (.slice none 0 0) [] xs A cap _ HP0.out.x (H.out.ext HP0.out.below) (by first | (simp; done) | (simp; omega)) (by omega) h2 (by first | (simp; done) | (simp; omega)) HC.out).mono ?_
    rintro e wx5 ⟨rfl, vx5, hl, ht, hf⟩
    have HP5 := Lib.hid (HP0.out.putx hl ht hf)
    clear hl ht hf
    go_wp2_with fail
    refine (put_ok _ d vx5 ([] ++ xs) ys A' cap' _ HP5.out.x (H'.out.ext HP5.out.below) (by first | (simp; done) | (simp; omega)) (by omega) h2 (by first | (simp; done) | (simp; omega)) HC'.out).mono ?_
    rintro e wx6 ⟨rfl, vx6, hl, ht, hf⟩
    have HP6 := Lib.hid (HP5.out.putx hl ht hf)
    clear hl ht hf
    go_wp2_with fail
    have hpo := put_ok _ d (.slice none 0 0) [] (xs ++ ys) A4 c4 _ HP6.out.y (row_slN HP6.out.r) (by simp) (by omega) h2 (by first | (simp; done) | (simp; omega)) h4'.out
    rw [List.length_append] at hpo
    refine hpo.mono ?_
    clear hpo
    rintro e wx7 ⟨rfl, vy7, hl, ht, hf⟩
    have HP7 := Lib.hid (HP6.out.puty hl ht hf)
    clear hl ht hf
    have HP7' : Hid (Par4 w wx7 w.heap.size w1.heap.size d vx6 vy7 (.slice A4 (xs.length + ys.length) c4) (xs ++ ys) (xs ++ ys) (xs ++ ys)) := Lib.hid (by simpa using HP7.out)
    go_wp2_with fail
    refine (allN_any _ d vx6 (xs ++ ys) _ HP7'.out.x (by first | (simp; done) | (simp; omega))).mono ?_
    rintro e wx8 ⟨b8, vv8, rfl, hN, _, _, hb⟩
    have HN8 := Lib.hid hN
    have HP8 := Lib.hid (HP7'.out.ext hb)
    clear hN hb
    go_wp2_with fail
    have hno := notes_yes b8 vv8 (xs ++ ys) A4 c4 _ HN8.out (row_slN HP8.out.r) (by first | (simp; done) | (simp; omega))
    rw [List.length_append] at hno
    refine hno.mono ?_
    clear hno
    rintro e wy8 ⟨rfl, hb⟩
    have HP8n := Lib.hid (HP8.out.ext hb)
    clear hb
    go_wp2_with fail
    refine (allN_any _ d vy7 (xs ++ ys) _ HP8n.out.y (by first | (simp; done) | (simp; omega))).mono ?_
    rintro e wx9 ⟨b9, vv9, rfl, hN, _, _, hb⟩
    have HN9 := Lib.hid hN
    have HP9 := Lib.hid (HP8n.out.ext hb)
    clear hN hb
    go_wp2_with fail
    have hno := notes_yes b9 vv9 (xs ++ ys) A4 c4 _ HN9.out (row_slN HP9.out.r) (by first | (simp; done) | (simp; omega))
    rw [List.length_append] at hno
    refine hno.mono ?_
    clear hno
    rintro e wy9 ⟨rfl, hb⟩
    have HP9n := Lib.hid (HP9.out.ext hb)
    clear hb
    go_wp2_with fail
    refine (awake04 _).mono ?_
    rintro e w9 ⟨rfl, hb⟩
    have HB9 := Lib.hid (ext_trans HP9n.out.below hb)
    clear hb
    go_wp2_with fail
    go_ret
    exact ⟨rfl, HB9.out⟩
  by_cases ha : (xs.length : Int) ≤ d
  · have HP0 := HP
    go_wp2_with fail
    refine (put_ok _ d (.slice none 0 0) [] xs A cap _ HP0.out.x (H.out.ext HP0.out.below) (by first | (simp; done) | (simp; omega)) (by omega) h2 (by first | (simp; done) | (simp; omega)) HC.out).mono ?_
    rintro e wx5 ⟨rfl, vx5, hl, ht, hf⟩
    have HP5 := Lib.hid (HP0.out.putx hl ht hf)
    clear hl ht hf
    go_wp2_with fail
    refine (put_full _ d vx5 ([] ++ xs) A' ys.length cap' _ HP5.out.x (by first | (simp; done) | (simp; omega)) (by omega) h2 (by first | (simp; done) | (simp; omega))).mono ?_
    rintro e wx6 ⟨rfl, hb⟩
    have HP6 := Lib.hid (HP5.out.ext hb)
    clear hb
    go_wp2_with fail
    refine (put_full _ d (.slice none 0 0) [] A4 (xs.length + ys.length) c4 _ HP6.out.y (by simp) (by omega) h2 (by first | (simp; done) | (simp; omega))).mono ?_
    rintro e wx7 ⟨rfl, hb⟩
    have HP7 := Lib.hid (HP6.out.ext hb)
    clear hb
    have eb : decide (((xs.length + ys.length : Nat) : Int) > d) = true := by simp; omega
    have eb2 : decide ((xs.length : Int) + (ys.length : Int) > d) = true := by simp; omega
    go_wp2_with fail
    refine (llen_any _ d (.slice none 0 0) [] _ HP7.out.y).mono ?_
    rintro e wx8 ⟨rfl, hw⟩
    have HP8 : Hid (Par4 w wx8 w.heap.size w1.heap.size d vx5 (.slice none 0 0) (.slice A4 (xs.length + ys.length) c4) ([] ++ xs) [] (xs ++ ys)) := Lib.hid (by rw [hw]; exact HP7.out)
    clear hw
    go_wp2_with fail
    refine (llen_any _ d vx5 ([] ++ xs) _ HP8.out.x).mono ?_
    rintro e wx9 ⟨rfl, hw⟩
    have HP9 : Hid (Par4 w wx9 w.heap.size w1.heap.size d vx5 (.slice none 0 0) (.slice A4 (xs.length + ys.length) c4) ([] ++ xs) [] (xs ++ ys)) := Lib.hid (by rw [hw]; exact HP8.out)
    clear hw
    have el : decide ((([] ++ xs : List Nt).length : Int) ≤ d) = true := by simp; omega
    have el2 : decide ((xs.length : Int) ≤ d) = true := by simp; omega
    go_wp2_with fail
    refine (awake04 _).mono ?_
    rintro e w9 ⟨rfl, hb⟩
    have HB9 := Lib.hid (ext_trans HP9.out.below hb)
    clear hb
    go_wp2_with fail
    go_ret
    exact ⟨rfl, HB9.out⟩
  by_cases hc : (ys.length : Int) ≤ d
  · have HP0 := HP
    go_wp2_with fail
    refine (put_full _ d (.slice none 0 0) [] A xs.length cap _ HP0.out.x (by first | (simp; done) | (simp; omega)) (by omega) h2 (by first | (simp; done) | (simp; omega))).mono ?_
    rintro e wx5 ⟨rfl, hb⟩
    have HP5 := Lib.hid (HP0.out.ext hb)
    clear hb
    go_wp2_with fail
    refine (put_ok _ d (.slice none 0 0) [] ys A' cap' _ HP5.out.x (H'.out.ext HP5.out.below) (by first | (simp; done) | (simp; omega)) (by omega) h2 (by first | (simp; done) | (simp; omega)) HC'.out).mono ?_
    rintro e wx6 ⟨rfl, vx6, hl, ht, hf⟩
    have HP6 := Lib.hid (HP5.out.putx hl ht hf)
    clear hl ht hf
    go_wp2_with fail
    refine (put_full _ d (.slice none 0 0) [] A4 (xs.length + ys.length) c4 _ HP6.out.y (by simp) (by omega) h2 (by first | (simp; done) | (simp; omega))).mono ?_
    rintro e wx7 ⟨rfl, hb⟩
    have HP7 := Lib.hid (HP6.out.ext hb)
    clear hb
    have eb : decide (((xs.length + ys.length : Nat) : Int) > d) = true := by simp; omega
    have eb2 : decide ((xs.length : Int) + (ys.length : Int) > d) = true := by simp; omega
    go_wp2_with fail
    refine (llen_any _ d (.slice none 0 0) [] _ HP7.out.y).mono ?_
    rintro e wx8 ⟨rfl, hw⟩
    have HP8 : Hid (Par4 w wx8 w.heap.size w1.heap.size d vx6 (.slice none 0 0) (.slice A4 (xs.length + ys.length) c4) ([] ++ ys) [] (xs ++ ys)) := Lib.hid (by rw [hw]; exact HP7.out)
    clear hw
    go_wp2_with fail
    refine (llen_any _ d vx6 ([] ++ ys) _ HP8.out.x).mono ?_
    rintro e wx9 ⟨rfl, hw⟩
    have HP9 : Hid (Par4 w wx9 w.heap.size w1.heap.size d vx6 (.slice none 0 0) (.slice A4 (xs.length + ys.length) c4) ([] ++ ys) [] (xs ++ ys)) := Lib.hid (by rw [hw]; exact HP8.out)
    clear hw
    have el2 : decide ((ys.length : Int) ≤ d) = true := by simp; omega
    go_wp2_with fail
    refine (awake04 _).mono ?_
    rintro e w9 ⟨rfl, hb⟩
    have HB9 := Lib.hid (ext_trans HP9.out.below hb)
    clear hb
    go_wp2_with fail
    go_ret
    exact ⟨rfl, HB9.out⟩
  · have HP0 := HP
    go_wp2_with fail
    refine (put_full _ d (.slice none 0 0) [] A xs.length cap _ HP0.out.x (by first | (simp; done) | (simp; omega)) (by omega) h2 (by first | (simp; done) | (simp; omega))).mono ?_
    rintro e wx5 ⟨rfl, hb⟩
    have HP5 := Lib.hid (HP0.out.ext hb)
    clear hb
    go_wp2_with fail
    refine (put_full _ d (.slice none 0 0) [] A' ys.length cap' _ HP5.out.x (by first | (simp; done) | (simp; omega)) (by omega) h2 (by first | (simp; done) | (simp; omega))).mono ?_
    rintro e wx6 ⟨rfl, hb⟩
    have HP6 := Lib.hid (HP5.out.ext hb)
    clear hb
    go_wp2_with fail
    refine (put_full _ d (.slice none 0 0) [] A4 (xs.length + ys.length) c4 _ HP6.out.y (by simp) (by omega) h2 (by first | (simp; done) | (simp; omega))).mono ?_
    rintro e wx7 ⟨rfl, hb⟩
    have HP7 := Lib.hid (HP6.out.ext hb)
    clear hb
    have eb : decide (((xs.length + ys.length : Nat) : Int) > d) = true := by simp; omega
    have eb2 : decide ((xs.length : Int) + (ys.length : Int) > d) = true := by simp; omega
    go_wp2_with fail
    refine (llen_any _ d (.slice none 0 0) [] _ HP7.out.y).mono ?_
    rintro e wx8 ⟨rfl, hw⟩
    have HP8 : Hid (Par4 w wx8 w.heap.size w1.heap.size d (.slice none 0 0) (.slice none 0 0) (.slice A4 (xs.length + ys.length) c4) ([]) [] (xs ++ ys)) := Lib.hid (by rw [hw]; exact HP7.out)
    clear hw
    go_wp2_with fail
    refine (llen_any _ d (.slice none 0 0) ([]) _ HP8.out.x).mono ?_
    rintro e wx9 ⟨rfl, hw⟩
    have HP9 : Hid (Par4 w wx9 w.heap.size w1.heap.size d (.slice none 0 0) (.slice none 0 0) (.slice A4 (xs.length + ys.length) c4) ([]) [] (xs ++ ys)) := Lib.hid (by rw [hw]; exact HP8.out)
    clear hw
    have el2 : decide ((0 : Int) ≤ d) = true := by simp; omega
    go_wp2_with fail
    refine (awake04 _).mono ?_
    rintro e w9 ⟨rfl, hb⟩
    have HB9 := Lib.hid (ext_trans HP9.out.below hb)
    clear hb
    go_wp2_with fail
    go_ret
    exact ⟨rfl, HB9.out⟩

theorem parts_walk (d : Int) (A A' : Option Addr) (xs ys : List Nt) (cap cap' : Nat) (w : World) (h : SlN w A xs) (hc : A = none → cap = 0) (h' : SlN w A' ys) (hc' : A' = none → cap' = 0) :
    Calls Try.prog 6 #[.int .i64 d, .slice A xs.length cap, .slice A' ys.length cap'] w fun e w' => e = .returned (.bool true) ∧ Below w.heap.size w w' := by
  by_cases hd : d < 1 ∨ 16 < d ∨ 20 < xs.length ∨ 20 < ys.length
  · exact parts_out d A A' _ _ cap cap' w hd
  · exact parts_in d A A' xs ys cap cap' w h hc h' hc' (by omega) (by omega) (by omega) (by omega)

end Go.Proofs.Ytnablldaaajhkaa
