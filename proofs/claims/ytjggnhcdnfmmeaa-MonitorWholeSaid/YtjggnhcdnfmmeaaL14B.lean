/- What this text holds: the walk of the law MonitorWhole. No condition. -/
import Derived.Test.YtjggnhcdnfmmeaaMo1
import Derived.Test.YtjggnhcdnfmmeaaPl14D
namespace Go.Proofs.Ytjggnhcdnfmmeaa
open Go.RowKit Go.Maps

set_option maxRecDepth 100000 in
set_option maxHeartbeats 4000000 in
theorem whole_no {w : World} {A : Option Addr} {cap : Nat} {os : List Int} (a : Ak) (fr : Int) (hA : SlI w A os) (h : newM 4 os ≠ 0) :
    Calls Try.prog 8 #[.slice A os.length cap, a.val, .int .i64 fr] w fun e w' => e = .returned (.bool true) ∧ Below w.heap.size w w' := by
  have HA := Lib.hid hA
  unfold Ak.val
  have HNE := Lib.hid h
  have HNW := Lib.hid (fun (W : World) (hb : Below w.heap.size w W) => mnew_any 4 A cap os (HA.out.ext hb))
  obtain ⟨r, hr⟩ : ∃ r, r = newM 4 os := ⟨_, rfl⟩
  have e1 : (r != 0) = true := by rw [hr]; simpa using h
  have HR := Lib.hid hr
  clear hA h hr
  go_enter Try.func8, Try.ntmps8
  go_wp2_with fail
  refine (HNW.out _ (by repeat (with_reducible first | exact Below.refl _ _ | assumption | (refine ext_next (by assumption) ?_) | apply ext_alloc | apply ext_past | apply ext_drew | apply ext_drewN))).mono ?_
  rintro e w1 ⟨hb1, h1⟩
  rcases h1 with ⟨_, he⟩ | ⟨h2, _⟩
  case inr => exact absurd h2 HNE.out
  subst he
  rw [← HR.out]
  have HB1 := Lib.hid (show Below w.heap.size w w1 from ext_next hb1 (by repeat (with_reducible first | exact Below.refl _ _ | assumption | (refine ext_next (by assumption) ?_) | apply ext_alloc | apply ext_past | apply ext_drew | apply ext_drewN)))
  clear hb1
  go_wp2_with fail
  refine (awake14 _).mono ?_
  rintro e w3 ⟨rfl, hb3⟩
  go_wp2_with fail
  go_ret
  exact ⟨rfl, ext_trans HB1.out hb3⟩
set_option maxRecDepth 100000 in
set_option maxHeartbeats 4000000 in
theorem whole_bad {w : World} {A : Option Addr} {cap : Nat} {os : List Int} (a : Ak) (fr : Int) (hA : SlI w A os) (h0 : newM 4 os = 0) (hwf : (Lit.int .i64 a.gr).wf = true) (hr : ((newS os).call 4 a).1 ≠ 0) :
    Calls Try.prog 8 #[.slice A os.length cap, a.val, .int .i64 fr] w fun e w' => e = .returned (.bool true) ∧ Below w.heap.size w w' := by
  have HNW := Lib.hid (fun (W : World) (hb : Below w.heap.size w W) => mnew_any 4 A cap os (hA.ext hb))
  have HZ := Lib.hid h0
  have HWF := Lib.hid hwf
  have HS := Lib.hid (call_same hr)
  obtain ⟨r, hrr⟩ : ∃ r, r = ((newS os).call 4 a).1 := ⟨_, rfl⟩
  have er : (r == 0) = false := by rw [hrr]; simpa using hr
  have er2 : (r != 0) = true := by rw [hrr]; simpa using hr
  have HRR := Lib.hid hrr
  clear hA h0 hwf hr hrr
  unfold Ak.val
  go_enter Try.func8, Try.ntmps8
  go_wp2_with fail
  refine (HNW.out _ (by repeat (with_reducible first | exact Below.refl _ _ | assumption | (refine ext_next (by assumption) ?_) | apply ext_alloc | apply ext_past | apply ext_drew | apply ext_drewN))).mono ?_
  rintro e w1 ⟨hb1, h1⟩
  rcases h1 with ⟨h2, _⟩ | ⟨_, p, t, g, bm, he, hm1⟩
  · exact absurd HZ.out h2
  subst he
  have H1 : Hid (Mb w w1 p t g bm 4 0 (newS os) [(w.heap.size, a.obj)]) := Lib.hid (by
    have hx := (hb1.block w.heap.size (by simp)).trans (alNew rfl)
    have hlo := hm1.lo
    simp at hlo
    exact ⟨⟨_, hm1, by simp⟩, ext_next hb1 (by repeat (with_reducible first | exact Below.refl _ _ | assumption | (refine ext_next (by assumption) ?_) | apply ext_alloc | apply ext_past | apply ext_drew | apply ext_drewN)), fun x hm => by obtain rfl := List.mem_singleton.1 hm; exact ⟨hx, by show w.heap.size ≠ g; omega, by show w.heap.size ≠ bm; omega⟩⟩)
  clear hb1 hm1
  have HC := Lib.hid (H1.out.call (by omega) a)
  rw [← HRR.out, HS.out, er] at HC
  unfold Ak.val at HC
  obtain ⟨k0, k1, k2, k3, k4, kf, kl⟩ := ask_at (H1.out.bx (w.heap.size, a.obj) (by simp)).1
  go_wp2_with fail
  refine HC.out.mono ?_
  rintro e w2 ⟨rfl, h2⟩
  have H2 := Lib.hid h2
  clear h2 HC k0 k1 k2 k3 k4 kf kl H1
  obtain ⟨k0, k1, k2, k3, k4, kf, kl⟩ := ask_at (H2.out.bx (w.heap.size, a.obj) (by simp)).1
  have HP := Lib.hid (H2.out.phase a.gr HWF.out)
  rw [show (ruO ((newS os).F a.gr)).ph = 0 from rfl] at HP
  go_wp2_with fail
  refine HP.out.mono ?_
  rintro e w3 ⟨rfl, hw3⟩
  rw [hw3]
  clear hw3
  go_wp2_with fail
  refine (awake14 _).mono ?_
  rintro e w4 ⟨rfl, hb4⟩
  go_wp2_with fail
  go_ret
  exact ⟨rfl, ext_trans H2.out.be hb4⟩

set_option maxRecDepth 100000 in
set_option maxHeartbeats 16000000 in
theorem whole_good {w : World} {A : Option Addr} {cap : Nat} {os : List Int} (a : Ak) (fr : Int) (hA : SlI w A os) (h0 : newM 4 os = 0) (hwf : (Lit.int .i64 a.gr).wf = true) (hr : ((newS os).call 4 a).1 = 0) :
    Calls Try.prog 8 #[.slice A os.length cap, a.val, .int .i64 fr] w fun e w' => e = .returned (.bool true) ∧ Below w.heap.size w w' := by
  have HNW := Lib.hid (fun (W : World) (hb : Below w.heap.size w W) => mnew_any 4 A cap os (hA.ext hb))
  have HZ := Lib.hid h0
  have HWF := Lib.hid hwf
  have h16 : os.length ≤ 16 := by
    unfold newM at h0
    split at h0
    · exact absurd h0 (by decide)
    · omega
  obtain ⟨c, hc⟩ : ∃ c : Nat, c = ((fr.tmod 4 + 4).tmod 4).toNat := ⟨_, rfl⟩
  have hfr : (fr.tmod 4 + 4).tmod 4 = (c : Int) := by
    have h1 : 0 ≤ fr.tmod 4 + 4 := by have := Int.lt_tmod_of_pos fr (show (0 : Int) < 4 by decide); omega
    rw [hc, Int.toNat_of_nonneg (Int.tmod_nonneg 4 h1)]
  have hc4 : c < 4 := by
    have := Int.tmod_lt_of_pos (fr.tmod 4 + 4) (show (0 : Int) < 4 by decide)
    omega
  obtain ⟨th, sc, hco0, hco1, hg0, hg1, hj, hs⟩ := whole_law hr c
  obtain ⟨en, hen⟩ : ∃ en, en = (atE (newS os).es a.gr.toNat) := ⟨_, rfl⟩
  obtain ⟨es, hes⟩ : ∃ es, es = (newS os).es.set a.gr.toNat ((atE (newS os).es a.gr.toNat).1, true) := ⟨_, rfl⟩
  have hle : es.length = os.length := by rw [hes]; simp [newS]
  have hat : atE es a.gr.toNat = (en.1, true) := by
    rw [hes, atE_set _ _ _ _ (by simp [newS]; omega), if_pos rfl, hen]
  rw [← hes] at hs
  rw [← hen] at hj
  have hgg : 0 ≤ a.gr ∧ a.gr < es.length := by omega
  have HG := Lib.hid (And.intro hgg (And.intro hle h16))
  have HS := Lib.hid (And.intro hr (And.intro hs hat))
  have HJ := Lib.hid hj
  have HCC := Lib.hid (And.intro hfr (And.intro hc4 (And.intro hco0 hco1)))
  clear hA h0 hwf hr hc hfr hc4 hco0 hco1 hg0 hg1 hj hs hen hes hle hat hgg h16
  unfold Ak.val
  go_enter Try.func8, Try.ntmps8
  go_wp2_with fail
  refine (HNW.out _ (by repeat (with_reducible first | exact Below.refl _ _ | assumption | (refine ext_next (by assumption) ?_) | apply ext_alloc | apply ext_past | apply ext_drew | apply ext_drewN))).mono ?_
  rintro e w1 ⟨hb1, h1⟩
  rcases h1 with ⟨h2, _⟩ | ⟨_, p, t, g, bm, he, hm1⟩
  · exact absurd HZ.out h2
  subst he
  have H1 : Hid (Mb w w1 p t g bm 4 0 (newS os) [(w.heap.size, a.obj)]) := Lib.hid (by
    have hx := (hb1.block w.heap.size (by simp)).trans (alNew rfl)
    have hlo := hm1.lo
    simp at hlo
    exact ⟨⟨_, hm1, by simp⟩, ext_next hb1 (by repeat (with_reducible first | exact Below.refl _ _ | assumption | (refine ext_next (by assumption) ?_) | apply ext_alloc | apply ext_past | apply ext_drew | apply ext_drewN)), fun x hm => by obtain rfl := List.mem_singleton.1 hm; exact ⟨hx, by show w.heap.size ≠ g; omega, by show w.heap.size ≠ bm; omega⟩⟩)
  clear hb1 hm1
  have HC := Lib.hid (H1.out.call (by omega) a)
  rw [HS.out.1, HS.out.2.1] at HC
  unfold Ak.val at HC
  obtain ⟨k0, k1, k2, k3, k4, kf, kl⟩ := ask_at (H1.out.bx (w.heap.size, a.obj) (by simp)).1
  go_wp2_with fail
  refine HC.out.mono ?_
  rintro e w2 ⟨rfl, h2⟩
  have H2 := Lib.hid h2
  clear h2 HC k0 k1 k2 k3 k4 kf kl H1
  obtain ⟨k0, k1, k2, k3, k4, kf, kl⟩ := ask_at (H2.out.bx (w.heap.size, a.obj) (by simp)).1
  obtain ⟨q0, pl⟩ := H2.out.cells
  have QH := Lib.hid (fun (W : World) (hb : Below w2.heap.size w2 W) => show (fun (w' : World) => w'.cell? ⟨p, 0, none⟩ = some (.pointer (some ⟨t, 0, none⟩)) ∧ w'.cell? ⟨w.heap.size, 3, none⟩ = some (.int .i64 a.gr)) W from ⟨(H2.out.ext hb).cells.1, (ask_at ((H2.out.ext hb).bx (w.heap.size, a.obj) (by simp)).1).2.2.2.1⟩)
  have HG1 := Lib.hid (fun (W : World) (hb : Below w2.heap.size w2 W) => (H2.out.ext hb).get a.gr HG.out.1)
  rw [show (stK es (fun _ => none) a th sc c 0).es = es from rfl, HS.out.2.2] at HG1
  dsimp only at HG1
  go_wp2_with fail
  go_cut [11, 12] from 69 to 78 (fun s11 s12 wc => ∃ E, s11 = .pointer (some ⟨E, 0, none⟩) ∧ s12 = .int .i64 0 ∧ Hid (Below w2.heap.size w2 wc ∧ w2.heap.size ≤ E ∧ wc.heap[E]? = some (.cells #[.int .i64 en.1, .bool true] 55 (0, 0))))
  case first =>
    have QQ := QH.out w2.drew (ext_drew (Below.refl _ _))
    go_region_held3 (fun w' => w'.cell? ⟨p, 0, none⟩ = some (.pointer (some ⟨t, 0, none⟩)) ∧ w'.cell? ⟨w.heap.size, 3, none⟩ = some (.int .i64 a.gr))
      (first | exact QQ | exact QH.out _ (by repeat (with_reducible first | exact Below.refl _ _ | assumption | (refine ext_next (by assumption) ?_) | apply ext_alloc | apply ext_past | apply ext_drew | apply ext_drewN | (refine ext_set ?_ (by first | exact Nat.le_refl _ | (simp; done))))))
      (first
        | (go_at_call 25; refine (HG1.out _ (by repeat (with_reducible first | exact Below.refl _ _ | assumption | (refine ext_next (by assumption) ?_) | apply ext_alloc | apply ext_past | apply ext_drew | apply ext_drewN))).mono ?_; rintro e w3 ⟨rfl, hb2⟩; have QQ := QH.out w3 (ext_next hb2 (by repeat (with_reducible first | exact Below.refl _ _ | assumption | (refine ext_next (by assumption) ?_) | apply ext_alloc | apply ext_past | apply ext_drew | apply ext_drewN))); have hE : w3.heap[w2.heap.size]? = some (.cells #[.int .i64 0, .bool false] 55 (0, 0)) := (hb2.block _ (by simp)).trans (by first | exact alNew rfl | exact alNew (by simp)); obtain ⟨e0, e1, e2, e3⟩ := ent_at hE)
        | (go_at_call 25; refine (HG1.out _ (by repeat (with_reducible first | exact Below.refl _ _ | assumption | (refine ext_next (by assumption) ?_) | apply ext_alloc | apply ext_past | apply ext_drew | apply ext_drewN))).mono ?_; rintro e w3 ⟨rfl, hb2⟩; have QQ := QH.out w3 (ext_next hb2 (by repeat (with_reducible first | exact Below.refl _ _ | assumption | (refine ext_next (by assumption) ?_) | apply ext_alloc | apply ext_past | apply ext_drew | apply ext_drewN)))))
    all_goals (try go_wp2_with fail)
    all_goals go_meet
    all_goals have hs2 := hb2.size
    all_goals exact ⟨_, rfl, rfl, Lib.hid ⟨by repeat (with_reducible first | exact Below.refl _ _ | assumption | (refine ext_next (by assumption) ?_) | apply ext_alloc | apply ext_past | apply ext_drew | apply ext_drewN | (refine ext_set ?_ (by first | exact Nat.le_refl _ | (simp; done)))), by first | exact Nat.le_refl _ | (simp at hs2; omega), by first | exact ent_set _ _ hE | exact alNew rfl⟩⟩
  case rest =>
    obtain ⟨E, rfl, rfl, HB⟩ := hcut
    have H3 := Lib.hid (H2.out.ext HB.out.1)
    have HE := Lib.hid HB.out.2.2
    clear HB QH HG1 k0 k1 k2 k3 k4 kf kl q0 pl
    obtain ⟨k0, k1, k2, k3, k4, kf, kl⟩ := ask_at (H3.out.bx (w.heap.size, a.obj) (by simp)).1
    obtain ⟨e0, e1, e2, e3⟩ := ent_at HE.out
    have HJ3 := Lib.hid (judge_any a.ca a.wo en.1 a.to wc)
    rw [HJ.out] at HJ3
    go_step
    go_wp2_with fail
    refine HJ3.out.mono ?_
    rintro e w3 ⟨rfl, hb3⟩
    have H4 := Lib.hid (H3.out.ext hb3)
    clear hb3 HJ3 H3 H2 HE k0 k1 k2 k3 k4 kf kl e0 e1 e2 e3
    obtain ⟨k0, k1, k2, k3, k4, kf, kl⟩ := ask_at (H4.out.bx (w.heap.size, a.obj) (by simp)).1
    obtain ⟨d, hd⟩ : ∃ d : Int, d = (a.co + 1).tmod 4 := ⟨_, rfl⟩
    have HD : Hid (0 ≤ d ∧ d < 4) := Lib.hid (by
      rw [hd]
      have := HCC.out.2.2.1
      exact ⟨Int.tmod_nonneg 4 (by omega), Int.tmod_lt_of_pos _ (by decide)⟩)
    have hd1 := hd.symm
    have hco0 := HCC.out.2.2.1
    have hco1 := HCC.out.2.2.2
    have hd2 : (wrap64 (a.co + 1)).tmod 4 = d := by rw [hd, show wrap64 (a.co + 1) = a.co + 1 by unfold wrap64; omega]
    clear hd
    go_wp2_with fail
    clear hd1 hd2 hco0 hco1
    obtain ⟨Z, hZ⟩ : ∃ Z, Z = w3.heap.size := ⟨_, rfl⟩
    obtain ⟨v5, hv5⟩ : ∃ x, x = w3.alloc (Ak.mk d a.wo a.ca a.gr a.to).obj := ⟨_, rfl⟩
    have HZZ : Hid (Z ≠ p ∧ Z ≠ t ∧ Z ≠ g ∧ Z ≠ bm ∧ w.heap.size < Z) := Lib.hid (by
      obtain ⟨B, m1, m2⟩ := H4.out.m
      have := m1.lt
      have := m1.lo
      omega)
    have h5 := H4.out.push (Ak.mk d a.wo a.ca a.gr a.to).obj
    rw [← hZ, ← hv5] at h5
    have H5 := Lib.hid h5
    have HC := Lib.hid (h5.call (by omega) ⟨d, a.wo, a.ca, a.gr, a.to⟩)
    rw [stK_busy HG.out.1 ⟨d, a.wo, a.ca, a.gr, a.to⟩ ⟨HD.out.1, HD.out.2, rfl⟩] at HC
    unfold Ak.val at HC
    unfold Ak.obj at hv5
    dsimp only at hv5 HC
    rw [← hv5, ← hZ]
    clear h5 hv5 hZ H4 k0 k1 k2 k3 k4 kf kl
    refine HC.out.mono ?_
    rintro e w6 ⟨rfl, h6⟩
    have H6 := Lib.hid h6
    clear h6 HC H5
    obtain ⟨k0, k1, k2, k3, k4, kf, kl⟩ := ask_at (H6.out.bx (w.heap.size, a.obj) (by simp)).1
    have HC := Lib.hid (H6.out.swept a.gr)
    rw [stK_state HG.out.1] at HC
    unfold Td.val Td.zero at HC
    dsimp only at HC
    go_wp2_with fail
    refine HC.out.mono ?_
    rintro e w7 ⟨rfl, h7⟩
    have H7 := Lib.hid h7
    clear h7 HC H6 k0 k1 k2 k3 k4 kf kl
    go_wp2_with fail
    go_loopg [21] 4 (fun gk s21 wr => ∃ k : Nat, s21 = .int .i64 k ∧ k + gk = 4 ∧ Hid (∃ M, M ≤ 2 + 2 * k ∧ Mb w wr p t g bm 4 M (stK es (fun _ => none) a th sc c k) [(Z, (Ak.mk d a.wo a.ca a.gr a.to).obj), (w.heap.size, a.obj)]))
    case atStart => exact ⟨0, rfl, by omega, Lib.hid ⟨2, by omega, H7.out.ext (ext_alloc _ (Below.refl _ _))⟩⟩
    case round =>
      clear H7
      obtain ⟨k, rfl, hk, HQ⟩ := hrel
      obtain ⟨M, hM, hT⟩ := HQ.out
      by_cases hlt : k < 4
      · have ek : decide ((k : Int) < (4 : Int)) = true := by simp; omega
        have ek2 : decide (k < 4) = true := by simpa using hlt
        obtain ⟨cc, hcc⟩ : ∃ cc : Int, cc = (((c + k) % 4 : Nat) : Int) := ⟨_, rfl⟩
        obtain ⟨bx, hbx⟩ : ∃ bx, bx = decide (k = 3) := ⟨_, rfl⟩
        have eb : ((k : Int) == 3) = bx := by rw [hbx]; rw [Bool.eq_iff_iff]; simp; omega
        have hck : ((c : Int) + (k : Int)).tmod 4 = cc := by
          rw [hcc, Int.tmod_eq_emod_of_nonneg (by omega)]
          omega
        have hfr := HCC.out.1
        have hc4 := HCC.out.2.1
        have HC := Lib.hid (hT.drop (by omega) a.gr cc)
        rw [show (stK es (fun _ => none) a th sc c k).drop 4 a.gr cc = (decide (k = 3), 0, stK es (fun _ => none) a th sc c (k + 1)) by rw [hcc]; exact stK_drop HG.out.1 hc4 hlt, ← hbx] at HC
        dsimp only at HC
        obtain ⟨r, hr0, hr⟩ := stK_again (es := es) (F := fun _ => none) (th := th) (sc := sc) HG.out.1 hc4 hlt
        rw [← hcc] at hr
        have er : (r == 0) = false := by simpa using hr0
        have HR := Lib.hid hr
        have HKK := Lib.hid (And.intro hk (And.intro hM hlt))
        obtain ⟨k0, k1, k2, k3, k4, kf, kl⟩ := ask_at (hT.bx (w.heap.size, a.obj) (by simp)).1
        clear hT HQ hcc hbx hr0 hr hM
        have hck2 : (wrap64 ((wrap64 (fr.tmod 4 + 4)).tmod 4 + (k : Int))).tmod 4 = cc := by
          rw [show wrap64 (fr.tmod 4 + 4) = fr.tmod 4 + 4 by have := Int.lt_tmod_of_pos fr (show (0 : Int) < 4 by decide); have := Int.tmod_lt_of_pos fr (show (0 : Int) < 4 by decide); unfold wrap64; omega, hfr, show wrap64 ((c : Int) + (k : Int)) = (c : Int) + (k : Int) by unfold wrap64; omega]
          exact hck
        clear hck hfr hc4
        go_wp2_with fail
        refine HC.out.mono ?_
        rintro e y1 ⟨rfl, hy1⟩
        have HY1 := Lib.hid hy1
        clear hy1 HC k0 k1 k2 k3 k4 kf kl
        obtain ⟨k0, k1, k2, k3, k4, kf, kl⟩ := ask_at (HY1.out.bx (w.heap.size, a.obj) (by simp)).1
        have HC := Lib.hid (HY1.out.drop (by have := HKK.out; omega) a.gr cc)
        rw [HR.out] at HC
        dsimp only at HC
        go_wp2_with fail
        refine HC.out.mono ?_
        rintro e y2 ⟨rfl, hy2⟩
        have HY2 := Lib.hid hy2
        clear hy2 HC HY1 k0 k1 k2 k3 k4 kf kl
        go_wp2_with fail
        go_roundg (4 - (k + 1))
        case measure => have := HKK.out; omega
        case rel => exact ⟨k + 1, by go_num, by have := HKK.out; omega, Lib.hid ⟨M + 1 + 1, by have := HKK.out; omega, HY2.out⟩⟩
      · have ek : decide ((k : Int) < (4 : Int)) = false := by simp; omega
        have ek2 : decide (k < 4) = false := by simpa using hlt
        obtain rfl : k = 4 := by omega
        have H8 := Lib.hid (And.intro hT hM)
        clear hT hM HQ hk hlt
        by_cases hl : 1 < os.length
        · obtain ⟨g2, hg2⟩ : ∃ g2 : Int, g2 = (a.gr + 1).tmod (os.length : Int) := ⟨_, rfl⟩
          have hgb := HG.out.1
          have hle := HG.out.2.1
          have h16 := HG.out.2.2
          have HGG : Hid (0 ≤ g2 ∧ g2 < es.length ∧ g2 ≠ a.gr) := Lib.hid (by
            have e1 : 0 ≤ g2 := by rw [hg2]; exact Int.tmod_nonneg _ (by omega)
            have e2 : g2 < os.length := by rw [hg2]; exact Int.tmod_lt_of_pos _ (by omega)
            refine ⟨e1, by omega, fun e => ?_⟩
            by_cases e3 : a.gr + 1 = os.length
            · have : g2 = 0 := by rw [hg2, e3]; exact Int.tmod_self
              omega
            · have : g2 = a.gr + 1 := by rw [hg2]; exact Int.tmod_eq_of_lt (by omega) (by omega)
              omega)
          have hg3 : (wrap64 (a.gr + 1)).tmod (os.length : Int) = g2 := by rw [hg2, show wrap64 (a.gr + 1) = a.gr + 1 by have := HG.out.1; have := HG.out.2.1; have := HG.out.2.2; unfold wrap64; omega]
          have el1 : decide ((1 : Int) < (os.length : Int)) = true := decide_eq_true (by omega)
          have el2 : decide (1 < os.length) = true := decide_eq_true hl
          have el3 : (1 : Int) < (os.length : Int) := by omega
          have hne : ((os.length : Int) == 0) = false := by rw [beq_eq_false_iff_ne]; omega
          have hne2 : (os.length : Int) ≠ 0 := by omega
          have hne3 : ¬ os = [] := by intro e; rw [e] at hl; simp at hl
          have hg4 := hg2.symm
          have HL := Lib.hid hl
          clear hg2 hle hl
          obtain ⟨k0, k1, k2, k3, k4, kf, kl⟩ := ask_at (H8.out.1.bx (w.heap.size, a.obj) (by simp)).1
          obtain ⟨z0, z1, z2, z3, z4, zf, zl⟩ := ask_at (H8.out.1.bx (Z, (Ak.mk d a.wo a.ca a.gr a.to).obj) (by simp)).1
          have hne5 : ¬ w.heap.size = Z := by have := HZZ.out; omega
          iterate 72 go_step
          obtain ⟨v9, hv9⟩ : ∃ x, x = (((((wr.setCell ⟨Z, 0, none⟩ (.int .i64 a.co)).setCell ⟨Z, 1, none⟩ (.int .i64 a.wo)).setCell ⟨Z, 2, none⟩ (.int .i64 a.ca)).setCell ⟨Z, 3, none⟩ (.int .i64 a.gr)).setCell ⟨Z, 4, none⟩ (.int .i64 a.to)).setCell ⟨Z, 3, none⟩ (.int .i64 g2) := ⟨_, rfl⟩
          rw [← hv9]
          have h9 : Mb w v9 p t g bm 4 M (stK es (fun _ => none) a th sc c 4) [(Z, (Ak.mk a.co a.wo a.ca g2 a.to).obj), (w.heap.size, a.obj)] := by
            have hzz := HZZ.out
            refine Mb.add ((H8.out.1.sub (bs' := [(w.heap.size, a.obj)]) (by simp)).off (X := Z) ?_ ?_ ⟨hzz.1, hzz.2.1, hzz.2.2.1, hzz.2.2.2.1⟩ ?_ ?_) ?_ ⟨hzz.2.2.1, hzz.2.2.2.1⟩
            · rw [hv9]; simp
            · intro q hq
              rw [hv9]
              iterate 6 rw [Below.heap_setCell _ _ _ _ (by simpa using hq)]
            · intro x hx
              obtain rfl := List.mem_singleton.1 hx
              show w.heap.size ≠ Z
              omega
            · rw [hv9]
              have hzl := Nat.le_of_lt hzz.2.2.2.2
              exact (((((H8.out.1.be.setCell (p := ⟨Z, 0, none⟩) hzl _).setCell (p := ⟨Z, 1, none⟩) hzl _).setCell (p := ⟨Z, 2, none⟩) hzl _).setCell (p := ⟨Z, 3, none⟩) hzl _).setCell (p := ⟨Z, 4, none⟩) hzl _).setCell (p := ⟨Z, 3, none⟩) hzl _
            · have hz := (H8.out.1.bx (Z, (Ak.mk d a.wo a.ca a.gr a.to).obj) (by simp)).1
              have h1 := Joins.block_setCell (i := 0) hz (.int .i64 a.co)
              have h2 := Joins.block_setCell (i := 1) h1 (.int .i64 a.wo)
              have h3 := Joins.block_setCell (i := 2) h2 (.int .i64 a.ca)
              have h4 := Joins.block_setCell (i := 3) h3 (.int .i64 a.gr)
              have h5 := Joins.block_setCell (i := 4) h4 (.int .i64 a.to)
              have h6 := Joins.block_setCell (i := 3) h5 (.int .i64 g2)
              rw [hv9, h6]
              simp [Ak.obj]
          have HC := Lib.hid (h9.call (by have := H8.out.2; omega) ⟨a.co, a.wo, a.ca, g2, a.to⟩)
          rw [stK_there (by have := HG.out.2; omega) HG.out.1 ⟨a.co, a.wo, a.ca, g2, a.to⟩ ⟨HCC.out.2.2.1, HCC.out.2.2.2, rfl⟩ HGG.out] at HC
          unfold Ak.val at HC
          dsimp only at HC
          clear hv9 k0 k1 k2 k3 k4 kf kl z0 z1 z2 z3 z4 zf zl hne5
          obtain ⟨z0, z1, z2, z3, z4, zf, zl⟩ := ask_at (h9.bx (Z, (Ak.mk a.co a.wo a.ca g2 a.to).obj) (by simp)).1
          clear h9 el1 el2 el3 hne hne2 hne3 hg3 hg4 hgb h16
          go_wp2_with fail
          refine HC.out.mono ?_
          rintro e w9 ⟨rfl, h9⟩
          have H9 : Hid (∃ M, Mb w w9 p t g bm 4 M (stK es (fun _ => none) a th sc c 4) [(w.heap.size, a.obj)]) := Lib.hid ⟨_, h9.sub (by simp)⟩
          clear h9 HC z0 z1 z2 z3 z4 zf zl H8
          obtain ⟨M9, h9⟩ := H9.out
          have HC := Lib.hid (h9.swept a.gr)
          rw [stK_swept HG.out.1] at HC
          unfold Td.val at HC
          dsimp only at HC
          obtain ⟨k0, k1, k2, k3, k4, kf, kl⟩ := ask_at (h9.bx (w.heap.size, a.obj) (by simp)).1
          clear h9
          go_wp2_with fail
          refine HC.out.mono ?_
          rintro e y3 ⟨rfl, hy3⟩
          have h10 := hy3.push (Td.mk a th sc).obj
          obtain ⟨ZT, hZT⟩ : ∃ Z, Z = y3.heap.size := ⟨_, rfl⟩
          obtain ⟨v10, hv10⟩ : ∃ x, x = y3.alloc (Td.mk a th sc).obj := ⟨_, rfl⟩
          rw [← hZT, ← hv10] at h10
          unfold Td.obj at hv10
          dsimp only at hv10
          have H10 := Lib.hid h10
          clear h10 hy3 HC H9 k0 k1 k2 k3 k4 kf kl
          go_wp2_with fail
          rw [← hv10, ← hZT]
          clear hv10 hZT
          obtain ⟨k0, k1, k2, k3, k4, kf, kl⟩ := ask_at (H10.out.bx (w.heap.size, a.obj) (by simp)).1
          obtain ⟨q0, pl⟩ := H10.out.cells
          have QH := Lib.hid (fun (W : World) (hb : Below v10.heap.size v10 W) => show (fun (w' : World) => w'.cell? ⟨p, 0, none⟩ = some (.pointer (some ⟨t, 0, none⟩)) ∧ w'.cell? ⟨w.heap.size, 3, none⟩ = some (.int .i64 a.gr)) W from ⟨(H10.out.ext hb).cells.1, (ask_at ((H10.out.ext hb).bx (w.heap.size, a.obj) (by simp)).1).2.2.2.1⟩)
          have HG1 := Lib.hid (fun (W : World) (hb : Below v10.heap.size v10 W) => (H10.out.ext hb).get a.gr (by have := HG.out.1; simpa using this))
          rw [show atE (es.set a.gr.toNat (th, false)) a.gr.toNat = (th, false) by rw [atE_set _ _ _ _ (by have := HG.out.1; omega), if_pos rfl]] at HG1
          dsimp only at HG1
          go_cut [31, 32] from 190 to 199 (fun s31 s32 wc => ∃ E, s31 = .pointer (some ⟨E, 0, none⟩) ∧ s32 = .int .i64 0 ∧ Hid (Below v10.heap.size v10 wc ∧ v10.heap.size ≤ E ∧ wc.heap[E]? = some (.cells #[.int .i64 th, .bool false] 55 (0, 0))))
          case first =>
            have QQ := QH.out v10.drew (ext_drew (Below.refl _ _))
            go_region_held3 (fun w' => w'.cell? ⟨p, 0, none⟩ = some (.pointer (some ⟨t, 0, none⟩)) ∧ w'.cell? ⟨w.heap.size, 3, none⟩ = some (.int .i64 a.gr))
              (first | exact QQ | exact QH.out _ (by repeat (with_reducible first | exact Below.refl _ _ | assumption | (refine ext_next (by assumption) ?_) | apply ext_alloc | apply ext_past | apply ext_drew | apply ext_drewN | (refine ext_set ?_ (by first | exact Nat.le_refl _ | (simp; done))))))
              (first
                | (go_at_call 25; refine (HG1.out _ (by repeat (with_reducible first | exact Below.refl _ _ | assumption | (refine ext_next (by assumption) ?_) | apply ext_alloc | apply ext_past | apply ext_drew | apply ext_drewN))).mono ?_; rintro e w3 ⟨rfl, hb2⟩; have QQ := QH.out w3 (ext_next hb2 (by repeat (with_reducible first | exact Below.refl _ _ | assumption | (refine ext_next (by assumption) ?_) | apply ext_alloc | apply ext_past | apply ext_drew | apply ext_drewN))); have hE : w3.heap[v10.heap.size]? = some (.cells #[.int .i64 0, .bool false] 55 (0, 0)) := (hb2.block _ (by simp)).trans (by first | exact alNew rfl | exact alNew (by simp)); obtain ⟨e0, e1, e2, e3⟩ := ent_at hE)
                | (go_at_call 25; refine (HG1.out _ (by repeat (with_reducible first | exact Below.refl _ _ | assumption | (refine ext_next (by assumption) ?_) | apply ext_alloc | apply ext_past | apply ext_drew | apply ext_drewN))).mono ?_; rintro e w3 ⟨rfl, hb2⟩; have QQ := QH.out w3 (ext_next hb2 (by repeat (with_reducible first | exact Below.refl _ _ | assumption | (refine ext_next (by assumption) ?_) | apply ext_alloc | apply ext_past | apply ext_drew | apply ext_drewN)))))
            all_goals (try go_wp2_with fail)
            all_goals go_meet
            all_goals have hs2 := hb2.size
            all_goals exact ⟨_, rfl, rfl, Lib.hid ⟨by repeat (with_reducible first | exact Below.refl _ _ | assumption | (refine ext_next (by assumption) ?_) | apply ext_alloc | apply ext_past | apply ext_drew | apply ext_drewN | (refine ext_set ?_ (by first | exact Nat.le_refl _ | (simp; done)))), by first | exact Nat.le_refl _ | (simp at hs2; omega), by first | exact ent_set _ _ hE | exact alNew rfl⟩⟩
          case rest =>
            obtain ⟨E9, rfl, rfl, HB⟩ := hcut
            have H11 := Lib.hid (H10.out.ext HB.out.1)
            have HE := Lib.hid HB.out.2.2
            clear HB QH HG1 H10 k0 k1 k2 k3 k4 kf kl q0 pl
            obtain ⟨k0, k1, k2, k3, k4, kf, kl⟩ := ask_at (H11.out.bx (w.heap.size, a.obj) (by simp)).1
            obtain ⟨z0, z1, z2, z3, z4, z5, z6, zl⟩ := told_at (x := Td.mk a th sc) (H11.out.bx (ZT, (Td.mk a th sc).obj) (by simp)).1
            obtain ⟨e0, e1, e2, e3⟩ := ent_at HE.out
            have HP := Lib.hid (H11.out.phase a.gr HWF.out)
            rw [show (ruO (updI (fun _ => none) a.gr none a.gr)).ph = 0 by rw [updI_same]; rfl] at HP
            have hq1 := fun wx => eqTd wx a.co a.wo a.ca a.gr a.to th sc
            have hq2 := fun wx => eqEn wx th false
            go_step
            go_wp2_with fail
            refine HP.out.mono ?_
            rintro e y4 ⟨rfl, hy4⟩
            rw [hy4]
            clear hy4 hq1 hq2
            go_wp2_with fail
            refine (awake14 _).mono ?_
            rintro e y5 ⟨rfl, hy5⟩
            go_wp2_with fail
            go_ret
            exact ⟨rfl, ext_trans H11.out.be hy5⟩
        · have H9 : Hid (∃ M, Mb w wr p t g bm 4 M (stK es (fun _ => none) a th sc c 4) [(w.heap.size, a.obj)]) := Lib.hid ⟨_, H8.out.1.sub (by simp)⟩
          have el1 : decide ((1 : Int) < (os.length : Int)) = false := decide_eq_false (by omega)
          have el2 : decide (1 < os.length) = false := decide_eq_false hl
          have el3 : ¬ (1 : Int) < (os.length : Int) := by omega
          clear H8
          obtain ⟨M9, h9⟩ := H9.out
          have HC := Lib.hid (h9.swept a.gr)
          rw [stK_swept HG.out.1] at HC
          unfold Td.val at HC
          dsimp only at HC
          obtain ⟨k0, k1, k2, k3, k4, kf, kl⟩ := ask_at (h9.bx (w.heap.size, a.obj) (by simp)).1
          clear h9
          go_wp2_with fail
          refine HC.out.mono ?_
          rintro e y3 ⟨rfl, hy3⟩
          have h10 := hy3.push (Td.mk a th sc).obj
          obtain ⟨ZT, hZT⟩ : ∃ Z, Z = y3.heap.size := ⟨_, rfl⟩
          obtain ⟨v10, hv10⟩ : ∃ x, x = y3.alloc (Td.mk a th sc).obj := ⟨_, rfl⟩
          rw [← hZT, ← hv10] at h10
          unfold Td.obj at hv10
          dsimp only at hv10
          have H10 := Lib.hid h10
          clear h10 hy3 HC H9 k0 k1 k2 k3 k4 kf kl
          go_wp2_with fail
          rw [← hv10, ← hZT]
          clear hv10 hZT
          obtain ⟨k0, k1, k2, k3, k4, kf, kl⟩ := ask_at (H10.out.bx (w.heap.size, a.obj) (by simp)).1
          obtain ⟨q0, pl⟩ := H10.out.cells
          have QH := Lib.hid (fun (W : World) (hb : Below v10.heap.size v10 W) => show (fun (w' : World) => w'.cell? ⟨p, 0, none⟩ = some (.pointer (some ⟨t, 0, none⟩)) ∧ w'.cell? ⟨w.heap.size, 3, none⟩ = some (.int .i64 a.gr)) W from ⟨(H10.out.ext hb).cells.1, (ask_at ((H10.out.ext hb).bx (w.heap.size, a.obj) (by simp)).1).2.2.2.1⟩)
          have HG1 := Lib.hid (fun (W : World) (hb : Below v10.heap.size v10 W) => (H10.out.ext hb).get a.gr (by have := HG.out.1; simpa using this))
          rw [show atE (es.set a.gr.toNat (th, false)) a.gr.toNat = (th, false) by rw [atE_set _ _ _ _ (by have := HG.out.1; omega), if_pos rfl]] at HG1
          dsimp only at HG1
          go_cut [31, 32] from 190 to 199 (fun s31 s32 wc => ∃ E, s31 = .pointer (some ⟨E, 0, none⟩) ∧ s32 = .int .i64 0 ∧ Hid (Below v10.heap.size v10 wc ∧ v10.heap.size ≤ E ∧ wc.heap[E]? = some (.cells #[.int .i64 th, .bool false] 55 (0, 0))))
          case first =>
            have QQ := QH.out v10.drew (ext_drew (Below.refl _ _))
            go_region_held3 (fun w' => w'.cell? ⟨p, 0, none⟩ = some (.pointer (some ⟨t, 0, none⟩)) ∧ w'.cell? ⟨w.heap.size, 3, none⟩ = some (.int .i64 a.gr))
              (first | exact QQ | exact QH.out _ (by repeat (with_reducible first | exact Below.refl _ _ | assumption | (refine ext_next (by assumption) ?_) | apply ext_alloc | apply ext_past | apply ext_drew | apply ext_drewN | (refine ext_set ?_ (by first | exact Nat.le_refl _ | (simp; done))))))
              (first
                | (go_at_call 25; refine (HG1.out _ (by repeat (with_reducible first | exact Below.refl _ _ | assumption | (refine ext_next (by assumption) ?_) | apply ext_alloc | apply ext_past | apply ext_drew | apply ext_drewN))).mono ?_; rintro e w3 ⟨rfl, hb2⟩; have QQ := QH.out w3 (ext_next hb2 (by repeat (with_reducible first | exact Below.refl _ _ | assumption | (refine ext_next (by assumption) ?_) | apply ext_alloc | apply ext_past | apply ext_drew | apply ext_drewN))); have hE : w3.heap[v10.heap.size]? = some (.cells #[.int .i64 0, .bool false] 55 (0, 0)) := (hb2.block _ (by simp)).trans (by first | exact alNew rfl | exact alNew (by simp)); obtain ⟨e0, e1, e2, e3⟩ := ent_at hE)
                | (go_at_call 25; refine (HG1.out _ (by repeat (with_reducible first | exact Below.refl _ _ | assumption | (refine ext_next (by assumption) ?_) | apply ext_alloc | apply ext_past | apply ext_drew | apply ext_drewN))).mono ?_; rintro e w3 ⟨rfl, hb2⟩; have QQ := QH.out w3 (ext_next hb2 (by repeat (with_reducible first | exact Below.refl _ _ | assumption | (refine ext_next (by assumption) ?_) | apply ext_alloc | apply ext_past | apply ext_drew | apply ext_drewN)))))
            all_goals (try go_wp2_with fail)
            all_goals go_meet
            all_goals have hs2 := hb2.size
            all_goals exact ⟨_, rfl, rfl, Lib.hid ⟨by repeat (with_reducible first | exact Below.refl _ _ | assumption | (refine ext_next (by assumption) ?_) | apply ext_alloc | apply ext_past | apply ext_drew | apply ext_drewN | (refine ext_set ?_ (by first | exact Nat.le_refl _ | (simp; done)))), by first | exact Nat.le_refl _ | (simp at hs2; omega), by first | exact ent_set _ _ hE | exact alNew rfl⟩⟩
          case rest =>
            obtain ⟨E9, rfl, rfl, HB⟩ := hcut
            have H11 := Lib.hid (H10.out.ext HB.out.1)
            have HE := Lib.hid HB.out.2.2
            clear HB QH HG1 H10 k0 k1 k2 k3 k4 kf kl q0 pl
            obtain ⟨k0, k1, k2, k3, k4, kf, kl⟩ := ask_at (H11.out.bx (w.heap.size, a.obj) (by simp)).1
            obtain ⟨z0, z1, z2, z3, z4, z5, z6, zl⟩ := told_at (x := Td.mk a th sc) (H11.out.bx (ZT, (Td.mk a th sc).obj) (by simp)).1
            obtain ⟨e0, e1, e2, e3⟩ := ent_at HE.out
            have HP := Lib.hid (H11.out.phase a.gr HWF.out)
            rw [show (ruO (updI (fun _ => none) a.gr none a.gr)).ph = 0 by rw [updI_same]; rfl] at HP
            have hq1 := fun wx => eqTd wx a.co a.wo a.ca a.gr a.to th sc
            have hq2 := fun wx => eqEn wx th false
            go_step
            go_wp2_with fail
            refine HP.out.mono ?_
            rintro e y4 ⟨rfl, hy4⟩
            rw [hy4]
            clear hy4 hq1 hq2
            go_wp2_with fail
            refine (awake14 _).mono ?_
            rintro e y5 ⟨rfl, hy5⟩
            go_wp2_with fail
            go_ret
            exact ⟨rfl, ext_trans H11.out.be hy5⟩
theorem monitorwhole (A : Option Addr) (os : List Int) (cap : Nat) (a : Ak) (fr : Int) (w : World) (hA : SlI w A os) (hwf : (Lit.int .i64 a.gr).wf = true) :
    Calls Try.prog 8 #[.slice A os.length cap, a.val, .int .i64 fr] w fun e w' => e = .returned (.bool true) ∧ Below w.heap.size w w' := by
  by_cases h : newM 4 os = 0
  · by_cases hr : ((newS os).call 4 a).1 = 0
    · exact whole_good a fr hA h hwf hr
    · exact whole_bad a fr hA h hwf hr
  · exact whole_no a fr hA h

end Go.Proofs.Ytjggnhcdnfmmeaa
