/- What this text holds: the walk of the law MonitorTwo. No condition. -/
import Derived.Test.YtjggnhcdnfmmeaaMo2
import Derived.Test.YtjggnhcdnfmmeaaPl14C
namespace Go.Proofs.Ytjggnhcdnfmmeaa
open Go.RowKit Go.Maps

set_option maxRecDepth 100000 in
set_option maxHeartbeats 4000000 in
theorem two_no {w : World} {A : Option Addr} {cap : Nat} {os : List Int} (a b : Ak) (hA : SlI w A os) (h : newM 2 os ≠ 0 ∨ os.length < 2) :
    Calls Try.prog 9 #[.slice A os.length cap, a.val, b.val] w fun e w' => e = .returned (.bool true) ∧ Below w.heap.size w w' := by
  have HA := Lib.hid hA
  unfold Ak.val
  by_cases h0 : newM 2 os = 0
  case neg =>
    have HNE := Lib.hid h0
    have HNW := Lib.hid (fun (W : World) (hb : Below w.heap.size w W) => mnew_any 2 A cap os (HA.out.ext hb))
    obtain ⟨r, hr⟩ : ∃ r, r = newM 2 os := ⟨_, rfl⟩
    have e1 : (r != 0) = true := by rw [hr]; simpa using h0
    have HR := Lib.hid hr
    clear hA h h0 hr
    go_enter Try.func9, Try.ntmps9
    go_wp2_with fail
    refine (HNW.out _ (by repeat (with_reducible first | exact Below.refl _ _ | assumption | (refine ext_next (by assumption) ?_) | apply ext_alloc | apply ext_past | apply ext_drew | apply ext_drewN))).mono ?_
    rintro e w1 ⟨hb1, h1⟩
    rcases h1 with ⟨_, he⟩ | ⟨h2, _⟩
    case inr => exact absurd h2 HNE.out
    subst he
    rw [← HR.out]
    have HB1 := Lib.hid (show Below w.heap.size w w1 from ext_next hb1 (by repeat (with_reducible first | exact Below.refl _ _ | assumption | (refine ext_next (by assumption) ?_) | apply ext_alloc | apply ext_past | apply ext_drew | apply ext_drewN)))
    clear hb1
    go_wp2_with fail
    refine (HNW.out _ HB1.out).mono ?_
    rintro e w2 ⟨hb2, h1⟩
    rcases h1 with ⟨_, he⟩ | ⟨h2, _⟩
    case inr => exact absurd h2 HNE.out
    subst he
    rw [← HR.out]
    have HB2 := Lib.hid (ext_trans HB1.out hb2)
    clear hb2
    go_wp2_with fail
    refine (awake14 _).mono ?_
    rintro e w3 ⟨rfl, hb3⟩
    go_wp2_with fail
    go_ret
    exact ⟨rfl, ext_trans HB2.out hb3⟩
  have hlen : os.length < 2 := by omega
  have HNW := Lib.hid (fun (W : World) (hb : Below w.heap.size w W) => mnew_any 2 A cap os (HA.out.ext hb))
  have HZ := Lib.hid h0
  have e1 : decide ((os.length : Int) < 2) = true := decide_eq_true (by omega)
  have e2 : decide (os.length < 2) = true := decide_eq_true (by omega)
  have e3 : (os.length : Int) < 2 := by omega
  clear hA h h0
  go_enter Try.func9, Try.ntmps9
  go_wp2_with fail
  refine (HNW.out _ (by repeat (with_reducible first | exact Below.refl _ _ | assumption | (refine ext_next (by assumption) ?_) | apply ext_alloc | apply ext_past | apply ext_drew | apply ext_drewN))).mono ?_
  rintro e w1 ⟨hb1, h1⟩
  rcases h1 with ⟨h2, _⟩ | ⟨_, p, t, g, b', he, _⟩
  · exact absurd HZ.out h2
  subst he
  have HB1 := Lib.hid (show Below w.heap.size w w1 from ext_next hb1 (by repeat (with_reducible first | exact Below.refl _ _ | assumption | (refine ext_next (by assumption) ?_) | apply ext_alloc | apply ext_past | apply ext_drew | apply ext_drewN)))
  clear hb1
  go_wp2_with fail
  refine (HNW.out _ HB1.out).mono ?_
  rintro e w2 ⟨hb2, h1⟩
  rcases h1 with ⟨h2, _⟩ | ⟨_, p', t', g', b2, he, _⟩
  · exact absurd HZ.out h2
  subst he
  have HB2 := Lib.hid (ext_trans HB1.out hb2)
  clear hb2
  go_wp2_with fail
  refine (awake14 _).mono ?_
  rintro e w3 ⟨rfl, hb3⟩
  go_wp2_with fail
  go_ret
  exact ⟨rfl, ext_trans HB2.out hb3⟩
set_option maxRecDepth 100000 in
set_option maxHeartbeats 16000000 in
theorem two_yes {w : World} {A : Option Addr} {cap : Nat} {os : List Int} (a b : Ak) (hA : SlI w A os) (h0 : newM 2 os = 0) (hl : 2 ≤ os.length) :
    Calls Try.prog 9 #[.slice A os.length cap, a.val, b.val] w fun e w' => e = .returned (.bool true) ∧ Below w.heap.size w w' := by
  have HNW := Lib.hid (fun (W : World) (hb : Below w.heap.size w W) => mnew_any 2 A cap os (hA.ext hb))
  have HZ := Lib.hid h0
  have e1 : decide ((os.length : Int) < 2) = false := decide_eq_false (by omega)
  have e2 : decide (os.length < 2) = false := decide_eq_false (by omega)
  have HLN := Lib.hid hl
  have h16 : os.length ≤ 16 := by
    unfold newM at h0
    split at h0
    · exact absurd h0 (by decide)
    · omega
  obtain ⟨a', ha'⟩ : ∃ a' : Ak, a' = ⟨0, a.wo, a.ca, 0, a.to⟩ := ⟨_, rfl⟩
  obtain ⟨b', hb'⟩ : ∃ b' : Ak, b' = ⟨1, b.wo, b.ca, 1, b.to⟩ := ⟨_, rfl⟩
  obtain ⟨s0, hs0⟩ : ∃ s0, s0 = newS os := ⟨_, rfl⟩
  obtain ⟨s1, hs1⟩ : ∃ x, x = (s0.call 2 a').2 := ⟨_, rfl⟩
  obtain ⟨s2, hs2⟩ : ∃ x, x = (s1.call 2 b').2 := ⟨_, rfl⟩
  obtain ⟨s3, hs3⟩ : ∃ x, x = (s2.drop 2 0 0).2.2 := ⟨_, rfl⟩
  obtain ⟨s4, hs4⟩ : ∃ x, x = (s3.drop 2 1 1).2.2 := ⟨_, rfl⟩
  obtain ⟨s5, hs5⟩ : ∃ x, x = (s4.drop 2 0 1).2.2 := ⟨_, rfl⟩
  obtain ⟨s6, hs6⟩ : ∃ x, x = (s5.drop 2 1 0).2.2 := ⟨_, rfl⟩
  obtain ⟨s7, hs7⟩ : ∃ x, x = (s6.swept 1).2.2 := ⟨_, rfl⟩
  obtain ⟨s8, hs8⟩ : ∃ x, x = (s7.swept 0).2.2 := ⟨_, rfl⟩
  obtain ⟨t2, ht2⟩ : ∃ x, x = (s1.drop 2 0 0).2.2 := ⟨_, rfl⟩
  obtain ⟨t3, ht3⟩ : ∃ x, x = (t2.drop 2 0 1).2.2 := ⟨_, rfl⟩
  obtain ⟨t4, ht4⟩ : ∃ x, x = (t3.swept 0).2.2 := ⟨_, rfl⟩
  obtain ⟨t5, ht5⟩ : ∃ x, x = (t4.call 2 b').2 := ⟨_, rfl⟩
  obtain ⟨t6, ht6⟩ : ∃ x, x = (t5.drop 2 1 0).2.2 := ⟨_, rfl⟩
  obtain ⟨t7, ht7⟩ : ∃ x, x = (t6.drop 2 1 1).2.2 := ⟨_, rfl⟩
  obtain ⟨t8, ht8⟩ : ∃ x, x = (t7.swept 1).2.2 := ⟨_, rfl⟩
  have law := two_law hl (a := a') (b := b') (by rw [ha']; exact ⟨rfl, rfl⟩) (by rw [hb']; exact ⟨rfl, rfl⟩) (by rw [← hs0]; exact ⟨hs1, hs2, hs3, hs4, hs5, hs6, hs7, hs8⟩ : TwM (newS os) a' b' s1 s2 s3 s4 s5 s6 s7 s8) (by rw [← hs0]; exact ⟨hs1, ht2, ht3, ht4, ht5, ht6, ht7, ht8⟩ : TwN (newS os) a' b' s1 t2 t3 t4 t5 t6 t7 t8)
  obtain ⟨L1, L2, L3, L4, L5, L6, L7, L8⟩ := law
  obtain ⟨ra, hra⟩ : ∃ x, x = (s0.call 2 a').1 := ⟨_, rfl⟩
  obtain ⟨rb, hrb⟩ : ∃ x, x = (s1.call 2 b').1 := ⟨_, rfl⟩
  obtain ⟨X, hX⟩ : ∃ x, x = (s6.swept 1).1 := ⟨_, rfl⟩
  obtain ⟨xi, hxi⟩ : ∃ x, x = (s6.swept 1).2.1 := ⟨_, rfl⟩
  obtain ⟨Y, hY⟩ : ∃ x, x = (s7.swept 0).1 := ⟨_, rfl⟩
  obtain ⟨yi, hyi⟩ : ∃ x, x = (s7.swept 0).2.1 := ⟨_, rfl⟩
  rw [← hrb] at L1
  rw [← hY] at L2
  rw [← hyi] at L3
  rw [← hX] at L4
  rw [← hxi] at L5
  have HSA := Lib.hid (And.intro hs1 (And.intro hs2 (And.intro hra hrb)))
  have HSD := Lib.hid (And.intro hs3 (And.intro hs4 (And.intro hs5 hs6)))
  have HSX := Lib.hid (And.intro hs7 (And.intro hs8 (And.intro hX (And.intro hxi (And.intro hY hyi)))))
  have HST := Lib.hid (And.intro ht2 (And.intro ht3 (And.intro ht4 (And.intro ht5 (And.intro ht6 (And.intro ht7 ht8))))))
  have HL := Lib.hid (And.intro L1 (And.intro L2 (And.intro L3 (And.intro L4 (And.intro L5 (And.intro L6 (And.intro L7 L8)))))))
  have HAB := Lib.hid (And.intro ha' (And.intro hb' hs0))
  clear hA h0 hl hs0 hs1 hs2 hs3 hs4 hs5 hs6 hs7 hs8 ht2 ht3 ht4 ht5 ht6 ht7 ht8 L1 L2 L3 L4 L5 L6 L7 L8 hra hrb hX hxi hY hyi ha' hb'
  unfold Ak.val
  go_enter Try.func9, Try.ntmps9
  go_wp2_with fail
  refine (HNW.out _ (by repeat (with_reducible first | exact Below.refl _ _ | assumption | (refine ext_next (by assumption) ?_) | apply ext_alloc | apply ext_past | apply ext_drew | apply ext_drewN))).mono ?_
  rintro e w1 ⟨hb1, h1⟩
  rcases h1 with ⟨h2, _⟩ | ⟨_, p, t, g, bm, he, hm1⟩
  · exact absurd HZ.out h2
  subst he
  have hx1 := (hb1.block w.heap.size (by simp; omega)).trans (alOld (alNew rfl))
  have hy1 := (hb1.block (w.heap.size + 1) (by simp)).trans (alNew (by simp))
  have HP1 := Lib.hid (And.intro (show Below w.heap.size w w1 from ext_next hb1 (by repeat (with_reducible first | exact Below.refl _ _ | assumption | (refine ext_next (by assumption) ?_) | apply ext_alloc | apply ext_past | apply ext_drew | apply ext_drewN))) (And.intro hx1 (And.intro hy1 hm1)))
  clear hb1 hx1 hy1 hm1
  go_wp2_with fail
  refine (HNW.out _ HP1.out.1).mono ?_
  rintro e w2 ⟨hb2, h1⟩
  rcases h1 with ⟨h2, _⟩ | ⟨_, p', t', g', bm', he, hm2⟩
  · exact absurd HZ.out h2
  subst he
  have hx2 := (hb2.block _ (lt_of HP1.out.2.1)).trans HP1.out.2.1
  have hy2 := (hb2.block _ (lt_of HP1.out.2.2.1)).trans HP1.out.2.2.1
  have x0 : w2.cell? ⟨w.heap.size, 0, none⟩ = some (.int .i64 a.co) := by simp [World.cell?, hx2]
  have x1 : w2.cell? ⟨w.heap.size, 1, none⟩ = some (.int .i64 a.wo) := by simp [World.cell?, hx2]
  have x2 : w2.cell? ⟨w.heap.size, 2, none⟩ = some (.int .i64 a.ca) := by simp [World.cell?, hx2]
  have x3 : w2.cell? ⟨w.heap.size, 3, none⟩ = some (.int .i64 a.gr) := by simp [World.cell?, hx2]
  have x4 : w2.cell? ⟨w.heap.size, 4, none⟩ = some (.int .i64 a.to) := by simp [World.cell?, hx2]
  have xf : ∀ i, w2.frozen? ⟨w.heap.size, i, none⟩ = false := fun i => by simp [World.frozen?, hx2]
  have y0 : w2.cell? ⟨w.heap.size + 1, 0, none⟩ = some (.int .i64 b.co) := by simp [World.cell?, hy2]
  have y3 : w2.cell? ⟨w.heap.size + 1, 3, none⟩ = some (.int .i64 b.gr) := by simp [World.cell?, hy2]
  have yf : ∀ i, w2.frozen? ⟨w.heap.size + 1, i, none⟩ = false := fun i => by simp [World.frozen?, hy2]
  have xl := lt_of hx2
  have yl := lt_of hy2
  have HP2 := Lib.hid (And.intro hb2 (And.intro hx2 (And.intro hy2 hm2)))
  clear hb2 hx2 hy2 hm2
  go_wp2_with fail
  obtain ⟨w3, hw3⟩ : ∃ w3, w3 = (((w2.setCell ⟨w.heap.size, 0, none⟩ (.int .i64 0)).setCell ⟨w.heap.size, 3, none⟩ (.int .i64 0)).setCell ⟨w.heap.size + 1, 0, none⟩ (.int .i64 1)).setCell ⟨w.heap.size + 1, 3, none⟩ (.int .i64 1) := ⟨_, rfl⟩
  have H3 : Hid (Tw w w3 p t g bm 0 s0 p' t' g' bm' 0 s0 [(w.heap.size, a'.obj), (w.heap.size + 1, b'.obj)]) := by
    obtain ⟨hb2, hx2, hy2, hm2⟩ := HP2.out
    obtain ⟨hb1, _, hy1, hm1⟩ := HP1.out
    have hl1 := lt_of hy1
    have hlo1 := hm1.lo
    have hlo2 := hm2.lo
    have hs1 : w.heap.size + 2 ≤ w1.heap.size := by omega
    have hB : (((w.alloc (.cells #[.int .i64 a.co, .int .i64 a.wo, .int .i64 a.ca, .int .i64 a.gr, .int .i64 a.to] 70)).alloc (.cells #[.int .i64 b.co, .int .i64 b.wo, .int .i64 b.ca, .int .i64 b.gr, .int .i64 b.to] 70)).heap.size) = w.heap.size + 2 := by simp
    rw [hB] at hm1 hlo1
    have hk : ∀ q, q ≠ w.heap.size → q ≠ w.heap.size + 1 → w3.heap[q]? = w2.heap[q]? := fun q q1 q2 => by
      rw [hw3, Below.heap_setCell _ _ _ _ (by simpa using q2), Below.heap_setCell _ _ _ _ (by simpa using q2), Below.heap_setCell _ _ _ _ (by simpa using q1), Below.heap_setCell _ _ _ _ (by simpa using q1)]
    have hsz : w3.heap.size = w2.heap.size := by rw [hw3]; simp
    have hm1' := (hm1.ext hb2).keep (w' := w3) (by omega) (hk p (by omega) (by omega)) (hk t (by omega) (by omega)) (hk g (by omega) (by omega)) (hk bm (by omega) (by omega))
    have hm2' := hm2.keep (w' := w3) (by omega) (hk p' (by omega) (by omega)) (hk t' (by omega) (by omega)) (hk g' (by omega) (by omega)) (hk bm' (by omega) (by omega))
    have hpl := hm1.lt
    rw [← HAB.out.2.2] at hm1' hm2'
    refine Lib.hid ⟨⟨_, hm1', by omega⟩, ⟨_, hm2', by omega, by omega, by omega, by omega, by omega⟩, ?_, ?_⟩
    · rw [hw3]
      exact (((ext_trans hb1 hb2).setCell (p := ⟨w.heap.size, 0, none⟩) (Nat.le_refl _) _).setCell (p := ⟨w.heap.size, 3, none⟩) (Nat.le_refl _) _).setCell (p := ⟨w.heap.size + 1, 0, none⟩) (by simp) _ |>.setCell (p := ⟨w.heap.size + 1, 3, none⟩) (by simp) _
    · intro x hx
      rcases List.mem_cons.1 hx with rfl | hx
      · refine ⟨?_, by show w.heap.size ≠ g; omega, by show w.heap.size ≠ bm; omega, by show w.heap.size ≠ g'; omega, by show w.heap.size ≠ bm'; omega⟩
        show w3.heap[w.heap.size]? = some a'.obj
        rw [hw3, Below.heap_setCell _ _ _ _ (by simp), Below.heap_setCell _ _ _ _ (by simp)]
        have h1 := Joins.block_setCell (i := 0) hx2 (.int .i64 0)
        have h2 := Joins.block_setCell (i := 3) h1 (.int .i64 0)
        rw [h2, HAB.out.1]
        simp [Ak.obj]
      · obtain rfl := List.mem_singleton.1 hx
        refine ⟨?_, by show w.heap.size + 1 ≠ g; omega, by show w.heap.size + 1 ≠ bm; omega, by show w.heap.size + 1 ≠ g'; omega, by show w.heap.size + 1 ≠ bm'; omega⟩
        show w3.heap[w.heap.size + 1]? = some b'.obj
        rw [hw3]
        have h0 : ((w2.setCell ⟨w.heap.size, 0, none⟩ (.int .i64 0)).setCell ⟨w.heap.size, 3, none⟩ (.int .i64 0)).heap[w.heap.size + 1]? = _ := (Below.heap_setCell _ _ _ _ (by simp)).trans ((Below.heap_setCell _ _ _ _ (by simp)).trans hy2)
        have h1 := Joins.block_setCell (i := 0) h0 (.int .i64 1)
        have h2 := Joins.block_setCell (i := 3) h1 (.int .i64 1)
        rw [h2, HAB.out.2.1]
        simp [Ak.obj]
  rw [← hw3]
  clear hw3 x0 x1 x2 x3 x4 xf y0 y3 yf xl yl HP1 HP2
  have HC := Lib.hid (H3.out.callM (by omega) a')
  rw [← HSA.out.1] at HC
  rw [← HSA.out.2.2.1] at HC
  rw [show a'.val = .agg #[.int .i64 0, .int .i64 a.wo, .int .i64 a.ca, .int .i64 0, .int .i64 a.to] by rw [HAB.out.1]; rfl] at HC
  refine HC.out.mono ?_
  rintro e w4 ⟨rfl, h4⟩
  have H4 : Hid (Tw w w4 p t g bm 1 s1 p' t' g' bm' 0 s0 [(w.heap.size, a'.obj), (w.heap.size + 1, b'.obj)]) := Lib.hid h4
  clear h4 HC H3
  have HC := Lib.hid (H4.out.callM (by omega) b')
  rw [← HSA.out.2.1] at HC
  rw [← HSA.out.2.2.2] at HC
  rw [show b'.val = .agg #[.int .i64 1, .int .i64 b.wo, .int .i64 b.ca, .int .i64 1, .int .i64 b.to] by rw [HAB.out.2.1]; rfl] at HC
  obtain ⟨k0, k1, k2, k3, k4, kf, kl⟩ := ask_at (H4.out.bx (w.heap.size + 1, b'.obj) (by simp)).1
  rw [show b'.co = 1 by rw [HAB.out.2.1]] at k0; rw [show b'.wo = b.wo by rw [HAB.out.2.1]] at k1; rw [show b'.ca = b.ca by rw [HAB.out.2.1]] at k2; rw [show b'.gr = 1 by rw [HAB.out.2.1]] at k3; rw [show b'.to = b.to by rw [HAB.out.2.1]] at k4
  go_wp2_with fail
  refine HC.out.mono ?_
  rintro e w5 ⟨rfl, h5⟩
  have H5 : Hid (Tw w w5 p t g bm 2 s2 p' t' g' bm' 0 s0 [(w.heap.size, a'.obj), (w.heap.size + 1, b'.obj)]) := Lib.hid h5
  clear h5 HC k0 k1 k2 k3 k4 kf kl H4
  go_wp2_with fail
  go_loopg [15] 2 (fun gk s15 wr => ∃ k : Nat, s15 = .int .i64 k ∧ k + gk = 2 ∧ Hid (∃ s M, (k = 0 → s = s2) ∧ (k = 1 → s = s4) ∧ (k = 2 → s = s6) ∧ M ≤ 2 + 2 * k ∧ Tw w wr p t g bm M s p' t' g' bm' 0 s0 [(w.heap.size, a'.obj), (w.heap.size + 1, b'.obj)]))
  case atStart => exact ⟨0, rfl, by omega, Lib.hid ⟨s2, 2, fun _ => rfl, (fun h => by omega), (fun h => by omega), by omega, H5.out⟩⟩
  case round =>
    clear H5
    obtain ⟨k, rfl, hk, HQ⟩ := hrel
    obtain ⟨s, M, q0, q1, q2, hM, hT⟩ := HQ.out
    have HT := Lib.hid hT
    clear hT
    have hk3 : k = 0 ∨ k = 1 ∨ k = 2 := by omega
    rcases hk3 with rfl | rfl | rfl
    · obtain rfl : s = s2 := q0 rfl
      have HKK := Lib.hid hk
      clear q0 q1 q2 HQ hk
      have HC := Lib.hid (HT.out.dropM (by omega) 0 0)
      rw [← HSD.out.1] at HC
      go_wp2_with fail
      refine HC.out.mono ?_
      rintro e v1 ⟨⟨x1, r1, rfl⟩, hv1⟩
      have HV1 := Lib.hid hv1
      clear hv1 HC
      have HC := Lib.hid (HV1.out.dropM (by omega) 1 1)
      rw [← HSD.out.2.1] at HC
      go_wp2_with fail
      refine HC.out.mono ?_
      rintro e v2 ⟨⟨x2, r2, rfl⟩, hv2⟩
      have HV2 := Lib.hid hv2
      clear hv2 HC
      go_wp2_with fail
      go_roundg (2 - (0 + 1))
      case measure => have := HKK.out; omega
      case rel => exact ⟨0 + 1, by go_num, by omega, Lib.hid ⟨s4, M + 1 + 1, (fun h => by omega), (fun _ => rfl), (fun h => by omega), by omega, HV2.out⟩⟩
    · obtain rfl : s = s4 := q1 rfl
      have HKK := Lib.hid hk
      clear q0 q1 q2 HQ hk
      have HC := Lib.hid (HT.out.dropM (by omega) 0 1)
      rw [← HSD.out.2.2.1] at HC
      go_wp2_with fail
      refine HC.out.mono ?_
      rintro e v1 ⟨⟨x1, r1, rfl⟩, hv1⟩
      have HV1 := Lib.hid hv1
      clear hv1 HC
      have HC := Lib.hid (HV1.out.dropM (by omega) 1 0)
      rw [← HSD.out.2.2.2] at HC
      go_wp2_with fail
      refine HC.out.mono ?_
      rintro e v2 ⟨⟨x2, r2, rfl⟩, hv2⟩
      have HV2 := Lib.hid hv2
      clear hv2 HC
      go_wp2_with fail
      go_roundg (2 - (1 + 1))
      case measure => have := HKK.out; omega
      case rel => exact ⟨1 + 1, by go_num, by omega, Lib.hid ⟨s6, M + 1 + 1, (fun h => by omega), (fun h => by omega), (fun _ => rfl), by omega, HV2.out⟩⟩
    · obtain rfl : s = s6 := q2 rfl
      clear q0 q1 q2 HQ hk
      have H30 := HT
      clear HT
      have HC := Lib.hid (H30.out.sweptM 1)
      rw [← HSX.out.1] at HC
      rw [← HSX.out.2.2.1] at HC
      rw [← HSX.out.2.2.2.1] at HC
      unfold Td.val at HC
      go_wp2_with fail
      refine HC.out.mono ?_
      rintro e w31 ⟨rfl, h31⟩
      have h312 := h31.push X.obj
      obtain ⟨Z31, hZ31⟩ : ∃ Z, Z = w31.heap.size := ⟨_, rfl⟩
      obtain ⟨v31, hv31⟩ : ∃ x, x = w31.alloc X.obj := ⟨_, rfl⟩
      rw [← hZ31, ← hv31] at h312
      unfold Td.obj at hv31
      have H31 := Lib.hid h312
      clear h31 h312 HC H30
      have HC := Lib.hid (H31.out.sweptM 0)
      rw [← HSX.out.2.1] at HC
      rw [← HSX.out.2.2.2.2.1] at HC
      rw [← HSX.out.2.2.2.2.2] at HC
      unfold Td.val at HC
      go_wp2_with fail
      rw [← hv31, ← hZ31]
      clear hv31 hZ31
      refine HC.out.mono ?_
      rintro e w32 ⟨rfl, h32⟩
      have h322 := h32.push Y.obj
      obtain ⟨Z32, hZ32⟩ : ∃ Z, Z = w32.heap.size := ⟨_, rfl⟩
      obtain ⟨v32, hv32⟩ : ∃ x, x = w32.alloc Y.obj := ⟨_, rfl⟩
      rw [← hZ32, ← hv32] at h322
      unfold Td.obj at hv32
      have H32 := Lib.hid h322
      clear h32 h322 HC H31
      have HC := Lib.hid (H32.out.callN (by omega) a')
      rw [← HSA.out.1] at HC
      rw [← HSA.out.2.2.1] at HC
      rw [show a'.val = .agg #[.int .i64 0, .int .i64 a.wo, .int .i64 a.ca, .int .i64 0, .int .i64 a.to] by rw [HAB.out.1]; rfl] at HC
      have hq33 := (H32.out.bx (w.heap.size, a'.obj) (by simp)).1
      obtain ⟨k0, k1, k2, k3, k4, kf, kl⟩ := ask_at (X := w.heap.size) (a := a') hq33
      rw [show a'.co = 0 by rw [HAB.out.1]] at k0
      rw [show a'.wo = a.wo by rw [HAB.out.1]] at k1
      rw [show a'.ca = a.ca by rw [HAB.out.1]] at k2
      rw [show a'.gr = 0 by rw [HAB.out.1]] at k3
      rw [show a'.to = a.to by rw [HAB.out.1]] at k4
      clear hq33
      rw [hv32] at k0 k1 k2 k3 k4 kl
      go_wp2_with fail
      rw [← hv32, ← hZ32]
      clear hv32 hZ32
      refine HC.out.mono ?_
      rintro e w33 ⟨rfl, h33⟩
      have H33 := Lib.hid h33
      clear h33 HC k0 k1 k2 k3 k4 kf kl H32
      have HC := Lib.hid (H33.out.dropN (by omega) 0 0)
      rw [← HST.out.1] at HC
      go_wp2_with fail
      refine HC.out.mono ?_
      rintro e w34 ⟨⟨x34, r34, rfl⟩, h34⟩
      have H34 := Lib.hid h34
      clear h34 HC H33
      have HC := Lib.hid (H34.out.dropN (by omega) 0 1)
      rw [← HST.out.2.1] at HC
      go_wp2_with fail
      refine HC.out.mono ?_
      rintro e w35 ⟨⟨x35, r35, rfl⟩, h35⟩
      have H35 := Lib.hid h35
      clear h35 HC H34
      have HC := Lib.hid (H35.out.sweptN 0)
      rw [← HST.out.2.2.1] at HC
      rw [← HL.out.2.1] at HC
      rw [← HL.out.2.2.1] at HC
      unfold Td.val at HC
      go_wp2_with fail
      refine HC.out.mono ?_
      rintro e w36 ⟨rfl, h36⟩
      have h362 := h36.push Y.obj
      obtain ⟨Z36, hZ36⟩ : ∃ Z, Z = w36.heap.size := ⟨_, rfl⟩
      obtain ⟨v36, hv36⟩ : ∃ x, x = w36.alloc Y.obj := ⟨_, rfl⟩
      rw [← hZ36, ← hv36] at h362
      unfold Td.obj at hv36
      have H36 := Lib.hid h362
      clear h36 h362 HC H35
      have HC := Lib.hid (H36.out.callN (by omega) b')
      rw [← HST.out.2.2.2.1] at HC
      rw [← HL.out.1] at HC
      rw [show b'.val = .agg #[.int .i64 1, .int .i64 b.wo, .int .i64 b.ca, .int .i64 1, .int .i64 b.to] by rw [HAB.out.2.1]; rfl] at HC
      have hq37 := (H36.out.bx (w.heap.size + 1, b'.obj) (by simp)).1
      obtain ⟨k0, k1, k2, k3, k4, kf, kl⟩ := ask_at (X := w.heap.size + 1) (a := b') hq37
      rw [show b'.co = 1 by rw [HAB.out.2.1]] at k0
      rw [show b'.wo = b.wo by rw [HAB.out.2.1]] at k1
      rw [show b'.ca = b.ca by rw [HAB.out.2.1]] at k2
      rw [show b'.gr = 1 by rw [HAB.out.2.1]] at k3
      rw [show b'.to = b.to by rw [HAB.out.2.1]] at k4
      clear hq37
      rw [hv36] at k0 k1 k2 k3 k4 kl
      go_wp2_with fail
      rw [← hv36, ← hZ36]
      clear hv36 hZ36
      refine HC.out.mono ?_
      rintro e w37 ⟨rfl, h37⟩
      have H37 := Lib.hid h37
      clear h37 HC k0 k1 k2 k3 k4 kf kl H36
      have HC := Lib.hid (H37.out.dropN (by omega) 1 0)
      rw [← HST.out.2.2.2.2.1] at HC
      go_wp2_with fail
      refine HC.out.mono ?_
      rintro e w38 ⟨⟨x38, r38, rfl⟩, h38⟩
      have H38 := Lib.hid h38
      clear h38 HC H37
      have HC := Lib.hid (H38.out.dropN (by omega) 1 1)
      rw [← HST.out.2.2.2.2.2.1] at HC
      go_wp2_with fail
      refine HC.out.mono ?_
      rintro e w39 ⟨⟨x39, r39, rfl⟩, h39⟩
      have H39 := Lib.hid h39
      clear h39 HC H38
      have HC := Lib.hid (H39.out.sweptN 1)
      rw [← HST.out.2.2.2.2.2.2] at HC
      rw [← HL.out.2.2.2.1] at HC
      rw [← HL.out.2.2.2.2.1] at HC
      unfold Td.val at HC
      go_wp2_with fail
      refine HC.out.mono ?_
      rintro e w40 ⟨rfl, h40⟩
      have h402 := h40.push X.obj
      obtain ⟨Z40, hZ40⟩ : ∃ Z, Z = w40.heap.size := ⟨_, rfl⟩
      obtain ⟨v40, hv40⟩ : ∃ x, x = w40.alloc X.obj := ⟨_, rfl⟩
      rw [← hZ40, ← hv40] at h402
      unfold Td.obj at hv40
      have H40 := Lib.hid h402
      clear h40 h402 HC H39
      have hq0 := (H40.out.bx (Z31, X.obj) (by simp)).1
      obtain ⟨z00, z01, z02, z03, z04, z05, z06, z0l⟩ := told_at (X := Z31) (x := X) hq0
      have hq1 := (H40.out.bx (Z32, Y.obj) (by simp)).1
      obtain ⟨z10, z11, z12, z13, z14, z15, z16, z1l⟩ := told_at (X := Z32) (x := Y) hq1
      have hq2 := (H40.out.bx (Z36, Y.obj) (by simp)).1
      obtain ⟨z20, z21, z22, z23, z24, z25, z26, z2l⟩ := told_at (X := Z36) (x := Y) hq2
      have hq3 := (H40.out.bx (Z40, X.obj) (by simp)).1
      obtain ⟨z30, z31, z32, z33, z34, z35, z36, z3l⟩ := told_at (X := Z40) (x := X) hq3
      have hqX := fun wx => neqTd wx X.a.co X.a.wo X.a.ca X.a.gr X.a.to X.th X.sc
      have hqY := fun wx => neqTd wx Y.a.co Y.a.wo Y.a.ca Y.a.gr Y.a.to Y.th Y.sc
      rw [hv40] at z00 z01 z02 z03 z04 z05 z06 z0l z10 z11 z12 z13 z14 z15 z16 z1l z20 z21 z22 z23 z24 z25 z26 z2l z30 z31 z32 z33 z34 z35 z36 z3l
      clear hq0 hq1 hq2 hq3
      go_wp2_with fail
      rw [← hv40, ← hZ40]
      clear hv40 hZ40
      clear z00 z01 z02 z03 z04 z05 z06 z0l z10 z11 z12 z13 z14 z15 z16 z1l z20 z21 z22 z23 z24 z25 z26 z2l z30 z31 z32 z33 z34 z35 z36 z3l hqX hqY
      go_loopg [28] os.length (fun gk s28 wr => ∃ k : Nat, s28 = .int .i64 k ∧ k + gk = os.length ∧ Hid (Below v40.heap.size v40 wr))
      case atStart => exact ⟨0, rfl, by omega, Lib.hid (Below.refl _ _)⟩
      case round =>
        obtain ⟨k, rfl, hk, HQ⟩ := hrel
        by_cases hlt : k < os.length
        · have ek : decide ((k : Int) < (os.length : Int)) = true := by simp; omega
          have ek2 : decide (k < os.length) = true := by simpa using hlt
          have hT := H40.out.ext HQ.out
          obtain ⟨Bm, hm, _⟩ := hT.m
          obtain ⟨Bn, hn, _⟩ := hT.n
          obtain ⟨o, ho⟩ : ∃ o, atE s8.es k = (o, false) := ⟨(atE s8.es k).1, by rw [← (HL.out.2.2.2.2.2.2.2 k hlt).2]⟩
          have ho2 : atE t8.es k = (o, false) := by rw [← (HL.out.2.2.2.2.2.2.2 k hlt).1]; exact ho
          have HG1 := Lib.hid (fun (W : World) (hb : Below wr.heap.size wr W) => get_yes t g s8.es k W (hm.ext hb).tb (by omega) (by rw [HL.out.2.2.2.2.2.1]; omega))
          have HG2 := Lib.hid (fun (W : World) (hb : Below wr.heap.size wr W) => get_yes t' g' t8.es k W (hn.ext hb).tb (by omega) (by rw [HL.out.2.2.2.2.2.2.1]; omega))
          simp only [Int.toNat_natCast] at HG1 HG2
          rw [ho] at HG1
          rw [ho2] at HG2
          have HCM := Lib.hid (fun (W : World) (hb : Below wr.heap.size wr W) => And.intro (hm.ext hb).cells.1 (And.intro (hm.ext hb).lt.1 (And.intro (hn.ext hb).cells.1 (hn.ext hb).lt.1)))
          have HLT := Lib.hid (And.intro hk hlt)
          have hk16 : k < 16 := by omega
          have hqe := fun wx => neqEn wx o false
          obtain ⟨i0, i1, i2, i3⟩ := HCM.out wr (Below.refl _ _)
          clear hT hm hn ho ho2 hk hlt
          go_wp2_with fail
          refine (HG1.out _ (Below.refl _ _)).mono ?_
          rintro e y1 ⟨rfl, hy1⟩
          have HY1 := Lib.hid hy1
          obtain ⟨j0, j1, j2, j3⟩ := HCM.out y1 hy1
          clear hy1
          go_wp2_with fail
          refine (HG2.out _ (ext_trans HY1.out (ext_alloc _ (Below.refl _ _)))).mono ?_
          rintro e y2 ⟨rfl, hy2⟩
          have hx9 := (hy2.block y1.heap.size (by simp)).trans (alNew rfl)
          have g0 : y2.cell? ⟨y1.heap.size, 0, none⟩ = some (.int .i64 o) := by simp [World.cell?, hx9]
          have g1 : y2.cell? ⟨y1.heap.size, 1, none⟩ = some (.bool false) := by simp [World.cell?, hx9]
          have g2 := lt_of hx9
          have HY2 := Lib.hid (ext_trans HY1.out (ext_trans (ext_alloc (.cells #[.int .i64 o, .bool false] 55) (Below.refl _ _)) hy2))
          clear hy2 hx9
          go_wp2_with fail
          go_roundg (os.length - (k + 1))
          case measure => have := HLT.out; omega
          case rel => exact ⟨k + 1, by go_num, by have := HLT.out; omega, Lib.hid (ext_trans HQ.out (ext_trans HY2.out (ext_alloc _ (Below.refl _ _))))⟩
        · have ek : decide ((k : Int) < (os.length : Int)) = false := by simp; omega
          have ek2 : decide (k < os.length) = false := by simpa using hlt
          have HB := Lib.hid (ext_trans H40.out.be HQ.out)
          clear hk hlt
          go_wp2_with fail
          refine (awake14 _).mono ?_
          rintro e y3 ⟨rfl, hy3⟩
          go_wp2_with fail
          go_ret
          exact ⟨rfl, ext_trans HB.out hy3⟩
theorem monitortwo (A : Option Addr) (os : List Int) (cap : Nat) (a b : Ak) (w : World) (hA : SlI w A os) :
    Calls Try.prog 9 #[.slice A os.length cap, a.val, b.val] w fun e w' => e = .returned (.bool true) ∧ Below w.heap.size w w' := by
  by_cases h : newM 2 os = 0
  · by_cases hl : 2 ≤ os.length
    · exact two_yes a b hA h hl
    · exact two_no a b hA (.inr (by omega))
  · exact two_no a b hA (.inl h)

end Go.Proofs.Ytjggnhcdnfmmeaa
