/- What this text holds: a core and a machine that are made of one job. Conditions: the tables of limits and of ops hold what their initialisers lay. -/
import Derived.Test.YtkobeajbiendlaaDoorCoreH
import Derived.Test.YtkobeajbiendlaaDoorAtmT
import Derived.Test.YtkobeajbiendlaaDoorPl15
import Derived.Deep.RegionHeld3
import Derived.Deep.CutRange
namespace Go.Proofs.YtkobeajbiendlaaDoor
open Go.RowKit

def cfg15 : Cfg := ⟨1, 2, 1, 1, 1, 1, 1⟩
theorem one15 (w : World) : Calls Tryd.prog 69 #[] w fun e w' => e = .returned (.agg #[.int .i64 1, .int .i64 2, .int .i64 1, .int .i64 1, .int .i64 1, .int .i64 1, .int .i64 1]) ∧ Below w.heap.size w w' := by
  go_enter Tryd.func69, Tryd.ntmps69
  go_wp2
  (try simp only [Exit.inBlock, Exit.then]); refine bodyPost_ret (by simp [results, Tryd.results69, go_sem]; try rfl) rfl ?_
  exact ⟨rfl, ext_alloc _ (Below.refl _ _)⟩
/-- What atom.New answers here. -/
def NewPost15 (l : List Pr) (ws os ds : List Int) (w : World) (e : Ending) (w' : World) : Prop :=
  ((newE11 cfg15 l ws os ds = 0 ∧ ∃ p lo hi, e = .returned (.tuple #[.pointer (some ⟨p, 0, none⟩), .int .i64 0]) ∧ Mc w' lo hi p (maNew cfg15 l ws os ds l.length) ∧ w.heap.size ≤ lo) ∨
    (newE11 cfg15 l ws os ds ≠ 0 ∧ e = .returned (.tuple #[.pointer none, .int .i64 (newE11 cfg15 l ws os ds)]))) ∧ Below w.heap.size w w'
theorem NewPost15.ok {l : List Pr} {ws os ds : List Int} {w : World} {e : Ending} {w' : World} (h : NewPost15 l ws os ds w e w') (h0 : newE11 cfg15 l ws os ds = 0) :
    ∃ p lo hi, e = .returned (.tuple #[.pointer (some ⟨p, 0, none⟩), .int .i64 0]) ∧ Mc w' lo hi p (maNew cfg15 l ws os ds l.length) ∧ w.heap.size ≤ lo ∧ Below w.heap.size w w' := by
  obtain ⟨⟨_, p, lo, hi, h1, h2, h3⟩ | ⟨hn, _⟩, hb⟩ := h
  · exact ⟨p, lo, hi, h1, h2, h3, hb⟩
  · exact absurd h0 hn
theorem NewPost15.no {l : List Pr} {ws os ds : List Int} {w : World} {e : Ending} {w' : World} (h : NewPost15 l ws os ds w e w') (h0 : newE11 cfg15 l ws os ds ≠ 0) :
    e = .returned (.tuple #[.pointer none, .int .i64 (newE11 cfg15 l ws os ds)]) ∧ Below w.heap.size w w' := by
  obtain ⟨⟨hn, _⟩ | ⟨_, h1⟩, hb⟩ := h
  · exact absurd hn h0
  · exact ⟨h1, hb⟩
theorem newE_of (A : Option Addr) (c1 : Nat) (l : List Ins) (wo o0 o1 d0 d1 d2 d3 d4 d5 d6 d7 : Int) (h : newE11 cfg15 [⟨A, c1, l⟩] [wo] [o0, o1] [d0, d1, d2, d3, d4, d5, d6, d7] = 0) : newE 0 wo l = 0 := by
  unfold newE11 at h
  split at h
  · cases h
  split at h
  · cases h
  split at h
  · rename_i h1 h2 h3
    exact absurd h h3
  · rename_i h1 h2 h3
    split at h
    · cases h
    · rename_i h4
      have hp : (chkP l).2 = 0 := by
        have : badP [⟨A, c1, l⟩] = 0 := by simpa using h3
        rwa [badP_one] at this
      have hw : allIn 0 3 [wo] = true := by
        cases hh : allIn 0 3 [wo]
        · exact absurd (.inl hh) h4
        · rfl
      simp [allIn] at hw
      unfold newE
      rw [if_neg (by omega)]
      exact hp
theorem job_in {W : World} {b : Nat} {A : Option Addr} {l : List Ins} {c1 : Nat} {wo o0 o1 d0 d1 d2 d3 d4 d5 d6 d7 : Int} {fr : Nat × Nat} (h : W.heap[b]? = some (.cells #[.slice A l.length c1, .int .i64 wo, .int .i64 o0, .int .i64 o1, .int .i64 d0, .int .i64 d1, .int .i64 d2, .int .i64 d3, .int .i64 d4, .int .i64 d5, .int .i64 d6, .int .i64 d7] 99 fr)) :
    SlI W (some ⟨b, 2, none⟩) [o0, o1] ∧ SlI W (some ⟨b, 4, none⟩) [d0, d1, d2, d3, d4, d5, d6, d7] ∧ W.cell? ⟨b, 0, none⟩ = some (.slice A l.length c1) ∧ W.cell? ⟨b, 1, none⟩ = some (.int .i64 wo) := by
  refine ⟨fun _ => ⟨b, 2, rfl, (Array.getElem?_eq_some_iff.1 h).1, fun i hi => ?_⟩, fun _ => ⟨b, 4, rfl, (Array.getElem?_eq_some_iff.1 h).1, fun i hi => ?_⟩, by simp [World.cell?, h], by simp [World.cell?, h]⟩
  · have : i = 0 ∨ i = 1 := by simp at hi; omega
    rcases this with rfl | rfl <;> simp [World.cell?, h]
  · have : i = 0 ∨ i = 1 ∨ i = 2 ∨ i = 3 ∨ i = 4 ∨ i = 5 ∨ i = 6 ∨ i = 7 := by simp at hi; omega
    rcases this with rfl | rfl | rfl | rfl | rfl | rfl | rfl | rfl <;> simp [World.cell?, h]
theorem new15 (A : Option Addr) (l : List Ins) (c1 : Nat) (wo o0 o1 d0 d1 d2 d3 d4 d5 d6 d7 : Int) (W : World) (b b1 b2 : Nat) (hL : Lims W) (hO : Ops W) (hA : SlN W A l) (hA0 : A = none → l.length = 0 ∧ c1 = 0)
    (h : W.heap[b]? = some (.cells #[.slice A l.length c1, .int .i64 wo, .int .i64 o0, .int .i64 o1, .int .i64 d0, .int .i64 d1, .int .i64 d2, .int .i64 d3, .int .i64 d4, .int .i64 d5, .int .i64 d6, .int .i64 d7] 99 (0, 0))) (h1 : W.heap[b1]? = some (.cells #[.slice A l.length c1] 22 (0, 0))) (h2 : W.heap[b2]? = some (.cells #[.int .i64 wo] 3 (0, 0))) :
    Calls Tryd.prog 56 #[.agg #[.int .i64 1, .int .i64 2, .int .i64 1, .int .i64 1, .int .i64 1, .int .i64 1, .int .i64 1], .slice (some ⟨b1, 0, none⟩) 1 1, .slice (some ⟨b2, 0, none⟩) 1 1, .slice (some ⟨b, 2, none⟩) 2 2, .slice (some ⟨b, 4, none⟩) 8 8] W
      fun e w' => NewPost15 [⟨A, c1, l⟩] [wo] [o0, o1] [d0, d1, d2, d3, d4, d5, d6, d7] W e w' := by
  obtain ⟨j1, j2, _, _⟩ := job_in h
  refine anew_any cfg15 (some ⟨b1, 0, none⟩) (some ⟨b2, 0, none⟩) (some ⟨b, 2, none⟩) (some ⟨b, 4, none⟩) [⟨A, c1, l⟩] [wo] [o0, o1] [d0, d1, d2, d3, d4, d5, d6, d7] 1 1 2 8 W hL hO
    ⟨fun _ => ⟨b1, 0, rfl, lt_of h1, fun i hi => ?_⟩, fun i hi => ?_⟩ (fun _ => ⟨b2, 0, rfl, lt_of h2, fun i hi => ?_⟩) j1 j2 |>.mono ?_
  · obtain rfl : i = 0 := by simp at hi; omega
    simp [World.cell?, h1, atR]
  · obtain rfl : i = 0 := by simp at hi; omega
    exact ⟨hA, hA0⟩
  · obtain rfl : i = 0 := by simp at hi; omega
    simp [World.cell?, h2]
  · rintro e w' ⟨⟨h0, p, rfl, hM⟩ | ⟨h0, rfl⟩, hb⟩
    · exact ⟨.inl ⟨h0, p, _, _, rfl, hM, by simp⟩, hb⟩
    · exact ⟨.inr ⟨h0, rfl⟩, hb⟩
/-- What made answers. -/
def MadeJ (l : List Ins) (wo : Int) (L : List Pr) (os ds : List Int) (w : World) (e : Ending) (w' : World) : Prop :=
  ((∃ q v p lo hi, e = .returned (.tuple #[.pointer (some ⟨q, 0, none⟩), .pointer (some ⟨p, 0, none⟩), .bool true]) ∧ newE 0 wo l = 0 ∧ newE11 cfg15 L [wo] os ds = 0 ∧ Kc w' q v ⟨fun _ => 0, 0, wo, endB l 0, 0, l⟩ ∧ Mc w' lo hi p (maNew cfg15 L [wo] os ds 1) ∧
      w.heap.size ≤ lo ∧ hi ≤ q ∧ ∀ g, v.ownBlock = some g → hi ≤ g ∧ g < q) ∨ ∃ x y, e = .returned (.tuple #[x, y, .bool false])) ∧ Below w.heap.size w w'
section
variable (A : Option Addr) (l : List Ins) (c1 : Nat) (wo o0 o1 d0 d1 d2 d3 d4 d5 d6 d7 : Int) (w : World)
set_option maxRecDepth 100000 in
set_option maxHeartbeats 4000000 in
theorem made15 (hL : Lims w) (hO : Ops w) (hA : SlN w A l) (hA0 : A = none → l.length = 0 ∧ c1 = 0) :
    Calls Tryd.prog 44 #[.agg #[.slice A l.length c1, .int .i64 wo, .int .i64 o0, .int .i64 o1, .int .i64 d0, .int .i64 d1, .int .i64 d2, .int .i64 d3, .int .i64 d4, .int .i64 d5, .int .i64 d6, .int .i64 d7]] w fun e w' => MadeJ l wo [⟨A, c1, l⟩] [o0, o1] [d0, d1, d2, d3, d4, d5, d6, d7] w e w' := by
  have hb0 : Below w.heap.size w (w.alloc (.cells #[.slice A l.length c1, .int .i64 wo, .int .i64 o0, .int .i64 o1, .int .i64 d0, .int .i64 d1, .int .i64 d2, .int .i64 d3, .int .i64 d4, .int .i64 d5, .int .i64 d6, .int .i64 d7] 99)) := ext_alloc _ (Below.refl _ _)
  have HJ := Lib.hid (show (w.alloc (.cells #[.slice A l.length c1, .int .i64 wo, .int .i64 o0, .int .i64 o1, .int .i64 d0, .int .i64 d1, .int .i64 d2, .int .i64 d3, .int .i64 d4, .int .i64 d5, .int .i64 d6, .int .i64 d7] 99)).heap[w.heap.size]? = _ from alNew rfl)
  have HNW := Lib.hid (fun (W : World) (b1 b2 : Nat) (hb : Below (w.alloc (.cells #[.slice A l.length c1, .int .i64 wo, .int .i64 o0, .int .i64 o1, .int .i64 d0, .int .i64 d1, .int .i64 d2, .int .i64 d3, .int .i64 d4, .int .i64 d5, .int .i64 d6, .int .i64 d7] 99)).heap.size (w.alloc (.cells #[.slice A l.length c1, .int .i64 wo, .int .i64 o0, .int .i64 o1, .int .i64 d0, .int .i64 d1, .int .i64 d2, .int .i64 d3, .int .i64 d4, .int .i64 d5, .int .i64 d6, .int .i64 d7] 99)) W) => new15 A l c1 wo o0 o1 d0 d1 d2 d3 d4 d5 d6 d7 W w.heap.size b1 b2 (hL.ext (ext_trans hb0 hb)) (hO.ext (ext_trans hb0 hb)) (hA.ext (ext_trans hb0 hb)) hA0 ((hb.block _ (by simp)).trans HJ.out))
  have QQ := fun (W : World) (hb : Below (w.alloc (.cells #[.slice A l.length c1, .int .i64 wo, .int .i64 o0, .int .i64 o1, .int .i64 d0, .int .i64 d1, .int .i64 d2, .int .i64 d3, .int .i64 d4, .int .i64 d5, .int .i64 d6, .int .i64 d7] 99)).heap.size (w.alloc (.cells #[.slice A l.length c1, .int .i64 wo, .int .i64 o0, .int .i64 o1, .int .i64 d0, .int .i64 d1, .int .i64 d2, .int .i64 d3, .int .i64 d4, .int .i64 d5, .int .i64 d6, .int .i64 d7] 99)) W) => (job_in ((hb.block _ (by simp)).trans HJ.out)).2.2
  have QH := Lib.hid QQ
  have HO := Lib.hid (hO.ext hb0)
  have HA := Lib.hid (hA.ext hb0)
  have HB0 := Lib.hid hb0
  have HA0 := Lib.hid hA0
  clear hL hO hA hA0 hb0 QQ
  go_enter Tryd.func44, Tryd.ntmps44
  go_wp2_with fail
  generalize hW0 : w.alloc (.cells #[.slice A l.length c1, .int .i64 wo, .int .i64 o0, .int .i64 o1, .int .i64 d0, .int .i64 d1, .int .i64 d2, .int .i64 d3, .int .i64 d4, .int .i64 d5, .int .i64 d6, .int .i64 d7] 99) = W0 at *
  have hz0 : w.heap.size < W0.heap.size := by rw [← hW0]; simp
  clear hW0
  by_cases hn : newE11 cfg15 [⟨A, c1, l⟩] [wo] [o0, o1] [d0, d1, d2, d3, d4, d5, d6, d7] = 0
  · have HN1 := Lib.hid (fun (W : World) (b1 b2 : Nat) hb h1 h2 => (HNW.out W b1 b2 hb h1 h2).mono fun e w' h => h.ok hn)
    go_cut [5, 6] from 10 to 23 (fun s5 s6 wc => ∃ p lo hi, s5 = .pointer (some ⟨p, 0, none⟩) ∧ s6 = .int .i64 0 ∧ Hid (Mc wc lo hi p (maNew cfg15 [⟨A, c1, l⟩] [wo] [o0, o1] [d0, d1, d2, d3, d4, d5, d6, d7] 1) ∧ W0.heap.size ≤ lo ∧ Below W0.heap.size W0 wc))
    case first =>
      have QQ := QH.out W0.drew (ext_drew (Below.refl _ W0))
      go_region_held3 (fun w' => w'.cell? ⟨w.heap.size, 0, none⟩ = some (.slice A l.length c1) ∧ w'.cell? ⟨w.heap.size, 1, none⟩ = some (.int .i64 wo))
        (first | exact QQ | exact QH.out _ (by repeat (with_reducible first | exact Below.refl _ _ | assumption | (refine ext_next (by assumption) ?_) | apply ext_alloc | apply ext_past | apply ext_drew | apply ext_drewN)))
        (first | (go_at_call 69; refine (one15 _).mono ?_; rintro e w1 ⟨rfl, hb⟩; have QQ := QH.out w1 (ext_next hb (by repeat (with_reducible first | exact Below.refl _ _ | assumption | (refine ext_next (by assumption) ?_) | apply ext_alloc | apply ext_past | apply ext_drew | apply ext_drewN)))) | (go_at_call 56; refine (HN1.out _ _ _ (by repeat (with_reducible first | exact Below.refl _ _ | assumption | (refine ext_next (by assumption) ?_) | apply ext_alloc | apply ext_past | apply ext_drew | apply ext_drewN)) (by repeat (first | assumption | exact alNew rfl | exact alNew (by simp) | refine alOld ?_ | refine (hb.block _ (by first | (simp; done) | (simp; omega))).trans ?_)) (by repeat (first | assumption | exact alNew rfl | exact alNew (by simp) | refine alOld ?_ | refine (hb.block _ (by first | (simp; done) | (simp; omega))).trans ?_))).mono ?_; rintro e w2 ⟨p, lo, hi, rfl, hM, hlo, hb2⟩; have HM := Lib.hid (show Mc w2 lo hi p (maNew cfg15 [⟨A, c1, l⟩] [wo] [o0, o1] [d0, d1, d2, d3, d4, d5, d6, d7] 1) ∧ W0.heap.size ≤ lo ∧ Below W0.heap.size W0 w2 from ⟨hM, Nat.le_trans (show Below W0.heap.size W0 _ from by repeat (with_reducible first | exact Below.refl _ _ | assumption | (refine ext_next (by assumption) ?_) | apply ext_alloc | apply ext_past | apply ext_drew | apply ext_drewN)).size hlo, ext_next hb2 (by repeat (with_reducible first | exact Below.refl _ _ | assumption | (refine ext_next (by assumption) ?_) | apply ext_alloc | apply ext_past | apply ext_drew | apply ext_drewN))⟩); have QQ := QH.out w2 HM.out.2.2; clear hM hlo hb2))
      all_goals (try go_wp2_with fail)
      all_goals go_meet
      all_goals exact ⟨_, _, _, rfl, rfl, HM⟩
    case rest =>
      obtain ⟨p, lo, hi, rfl, rfl, HM⟩ := hcut
      have QQ := QH.out wc HM.out.2.2
      obtain ⟨q0, q1⟩ := QQ
      have hz1 := HM.out.2.2.size
      have hz2 : w.heap.size < wc.heap.size := by omega
      have hne := newE_of A c1 l wo o0 o1 d0 d1 d2 d3 d4 d5 d6 d7 hn
      clear hz1
      go_step
      go_wp2_with fail
      refine (knew_ok 0 wo A l c1 wc (HA.out.ext HM.out.2.2) HA0.out (HO.out.ext HM.out.2.2) hne).mono ?_
      rintro e w2 ⟨q, v, rfl, hK, hq, hv, hb⟩
      have HK := Lib.hid (And.intro hK (And.intro hq (And.intro hv hb)))
      clear hK hq hv hb
      go_wp2_with fail
      go_ret3
      have hs := HM.out.1.sz
      exact ⟨.inl ⟨q, v, p, lo, hi, rfl, hne, hn, HK.out.1, HM.out.1.ext HK.out.2.2.2, by have := HM.out.2.1; omega, by have := HK.out.2.1; omega, fun g hg => by have := HK.out.2.2.1 g hg; exact ⟨by omega, this.2⟩⟩, ext_trans HB0.out (ext_trans HM.out.2.2 HK.out.2.2.2)⟩
  · have HN1 := Lib.hid (fun (W : World) (b1 b2 : Nat) hb h1 h2 => (HNW.out W b1 b2 hb h1 h2).mono fun e w' h => h.no hn)
    generalize newE11 cfg15 [⟨A, c1, l⟩] [wo] [o0, o1] [d0, d1, d2, d3, d4, d5, d6, d7] = ne at hn HN1
    go_cut [5, 6] from 10 to 23 (fun s5 s6 wc => s5 = .pointer none ∧ s6 = .int .i64 ne ∧ Hid (Below W0.heap.size W0 wc))
    case first =>
      have QQ := QH.out W0.drew (ext_drew (Below.refl _ W0))
      go_region_held3 (fun w' => w'.cell? ⟨w.heap.size, 0, none⟩ = some (.slice A l.length c1) ∧ w'.cell? ⟨w.heap.size, 1, none⟩ = some (.int .i64 wo))
        (first | exact QQ | exact QH.out _ (by repeat (with_reducible first | exact Below.refl _ _ | assumption | (refine ext_next (by assumption) ?_) | apply ext_alloc | apply ext_past | apply ext_drew | apply ext_drewN)))
        (first | (go_at_call 69; refine (one15 _).mono ?_; rintro e w1 ⟨rfl, hb⟩; have QQ := QH.out w1 (ext_next hb (by repeat (with_reducible first | exact Below.refl _ _ | assumption | (refine ext_next (by assumption) ?_) | apply ext_alloc | apply ext_past | apply ext_drew | apply ext_drewN)))) | (go_at_call 56; refine (HN1.out _ _ _ (by repeat (with_reducible first | exact Below.refl _ _ | assumption | (refine ext_next (by assumption) ?_) | apply ext_alloc | apply ext_past | apply ext_drew | apply ext_drewN)) (by repeat (first | assumption | exact alNew rfl | exact alNew (by simp) | refine alOld ?_ | refine (hb.block _ (by first | (simp; done) | (simp; omega))).trans ?_)) (by repeat (first | assumption | exact alNew rfl | exact alNew (by simp) | refine alOld ?_ | refine (hb.block _ (by first | (simp; done) | (simp; omega))).trans ?_))).mono ?_; rintro e w2 ⟨rfl, hb2⟩; have HM := Lib.hid (show Below W0.heap.size W0 w2 from ext_next hb2 (by repeat (with_reducible first | exact Below.refl _ _ | assumption | (refine ext_next (by assumption) ?_) | apply ext_alloc | apply ext_past | apply ext_drew | apply ext_drewN))); have QQ := QH.out w2 HM.out; clear hb2))
      all_goals (try go_wp2_with fail)
      all_goals go_meet
      all_goals exact ⟨rfl, rfl, HM⟩
    case rest =>
      obtain ⟨rfl, rfl, HM⟩ := hcut
      have QQ := QH.out wc HM.out
      obtain ⟨q0, q1⟩ := QQ
      have hz1 := HM.out.size
      have hz2 : w.heap.size < wc.heap.size := by omega
      have en : (ne == 0) = false := by simpa using hn
      clear hz1
      go_step
      by_cases hne : newE 0 wo l = 0
      · go_wp2_with fail
        refine (knew_ok 0 wo A l c1 wc (HA.out.ext HM.out) HA0.out (HO.out.ext HM.out) hne).mono ?_
        rintro e w2 ⟨q, v, rfl, hK, hq, hv, hb⟩
        have HB2 := Lib.hid (ext_trans HM.out hb)
        clear hK hq hv hb
        go_wp2_with fail
        go_ret3
        exact ⟨.inr ⟨_, _, rfl⟩, ext_trans HB0.out HB2.out⟩
      · have HNE := Lib.hid (knew_no 0 wo A l c1 wc (HA.out.ext HM.out) (HO.out.ext HM.out) hne)
        generalize newE 0 wo l = nf at hne HNE
        go_wp2_with fail
        refine HNE.out.mono ?_
        rintro e w2 ⟨rfl, hb⟩
        have HB2 := Lib.hid (ext_trans HM.out hb)
        clear hb
        go_wp2_with fail
        go_ret3
        exact ⟨.inr ⟨_, _, rfl⟩, ext_trans HB0.out HB2.out⟩
end
end Go.Proofs.YtkobeajbiendlaaDoor
