/- What this text holds: a call of a monitor, of a granule that there is. No condition. -/
import Derived.Test.YtjggnhcdnfmmeaaMoC
namespace Go.Proofs.Ytjggnhcdnfmmeaa
open Go.RowKit Go.Maps Go.Shelf
attribute [local go_sem] Oper.semAt_some

section
variable {w : World} {B p t g b M : Nat} {n : Int} {s : Ms}
theorem judge_own (ca wo o tw : Int) : ownB (judge ca wo o tw).1 = true := by
  unfold judge ownB
  (repeat' split) <;> simp <;> omega
theorem busy_iff (h : s.ok) (co : Int) : busyC s.F co = true ↔ ∃ k : Int, (s.F k).isSome = true ∧ (ruO (s.F k)).a.co = co := by
  unfold busyC
  rw [List.any_eq_true]
  constructor
  · rintro ⟨k, _, hk⟩
    cases hF : s.F (k : Int) with
    | none => rw [hF] at hk; simp at hk
    | some r =>
      rw [hF] at hk
      exact ⟨k, by rw [hF]; rfl, by rw [hF]; simpa [ruO] using hk⟩
  · rintro ⟨k, hs, hco⟩
    obtain ⟨r, hr⟩ := Option.isSome_iff_exists.1 hs
    obtain ⟨h0, h1, _⟩ := h.run k r hr
    have hl := h.len
    obtain ⟨m, rfl⟩ := Int.eq_ofNat_of_zero_le h0
    refine ⟨m, List.mem_range.2 (by omega), ?_⟩
    rw [hr] at hco ⊢
    simpa [ruO] using hco
/-- A call that is answered with an error. -/
theorem call_fail (h : Mn w B p t g b n M s) {W : World} {a : Ak} (hb : Below w.heap.size w W) (r : Int) (hr : r ≠ 0) (hs : s.call n a = (r, s)) :
    Ending.returned (.tuple #[.bool false, .int .i64 r]) = Ending.returned (.tuple #[.bool ((s.call n a).1 == 0), .int .i64 (s.call n a).1]) ∧ Mn W B p t g b n (M + 1) (s.call n a).2 ∧ Gt w W g b := by
  rw [hs]
  have er : (r == 0) = false := by simpa using hr
  exact ⟨by rw [er], (h.ext hb).mono (by omega), Gt.of_below hb⟩
theorem Mn.setE {w1 : World} (h : Mn w B p t g b n M s) (k : Nat) (o : Int) (l : Bool) (ho : ownB o = true) (h1 : w.grownBy w1 (some g)) (ht : Tb w1 t g (s.es.set k (o, l))) : Mn w1 B p t g b n M ⟨s.es.set k (o, l), s.F⟩ := by
  obtain ⟨n1, n2, n3, n4, n5⟩ := h.ne
  have hl := h.lt
  refine ⟨⟨by simpa using h.ok.len, fun i hi => ?_, fun i r' hr => ?_⟩, h.hn, (h1.block p hl.1 (by simpa using n2)).trans h.box, ht, h.mp.block (h1.block b hl.2.2.2 (by simpa using n5.symm)), h.ne, h.lo⟩
  · have hi' : i < s.es.length := by simpa using hi
    by_cases e : k = i
    · subst e
      simp [atE, hi', ho]
    · have := h.ok.own i hi'
      simpa [atE, List.getElem?_set_ne e] using this
  · have := h.ok.run i r' hr
    simpa using this
theorem set12 {W : World} {X : Nat} {t' : TypeId} {v0 v1 v2 v3 v4 v5 v6 v7 v8 v9 v10 v11 : Value} (h : W.heap[X]? = some (.cells #[v0, v1, v2, v3, v4, v5, v6, v7, v8, v9, v10, v11] t' (0, 0))) (i : Nat) (u : Value) : (W.setCell ⟨X, i, none⟩ u).heap[X]? = some (.cells (#[v0, v1, v2, v3, v4, v5, v6, v7, v8, v9, v10, v11].setIfInBounds i u) t' (0, 0)) :=
  Joins.block_setCell (i := i) h u
set_option maxRecDepth 100000 in
set_option maxHeartbeats 8000000 in
theorem mcall_in (h : Mn w B p t g b n M s) (hM : M < 1000) (a : Ak) (hco : 0 ≤ a.co ∧ a.co < n) (hk : 0 ≤ a.gr ∧ a.gr < s.es.length) :
    Calls Try.prog 30 #[.pointer (some ⟨p, 0, none⟩), a.val] w fun e w' => e = .returned (.tuple #[.bool ((s.call n a).1 == 0), .int .i64 (s.call n a).1]) ∧ Mn w' B p t g b n (M + 1) (s.call n a).2 ∧ Gt w w' g b := by
  have HH := Lib.hid h
  have HC := Lib.hid (And.intro (cw_new w p a) (cw_below w p a))
  have HG := Lib.hid (fun (W : World) (hb : Below w.heap.size w W) => get_yes t g s.es a.gr W (h.ext hb).tb hk.1 hk.2)
  have ec : decide (a.co < 0) = false := by simp; omega
  have ec2 : decide (a.co ≥ n) = false := by simp; omega
  have ec3 : decide (n ≤ a.co) = false := by simp; omega
  have hwf : (Lit.int .i64 a.gr).wf = true := wf_small hk.1 (by have := h.ok.len.2; omega)
  have HKW := Lib.hid (key_int hwf)
  have HPH := Lib.hid (fun (W : World) (hb : Below w.heap.size w W) => mphase_any (h.ext hb) a.gr hwf)
  have HK := Lib.hid (And.intro hk (And.intro hco hM))
  have HCL : Hid (s.call n a = if (s.F a.gr).isSome then (17, s) else if busyC s.F a.co then (13, s) else if (judge a.ca a.wo (atE s.es a.gr.toNat).1 a.to).2.2 ≠ 0 then ((judge a.ca a.wo (atE s.es a.gr.toNat).1 a.to).2.2, s)
      else (0, ⟨s.es.set a.gr.toNat ((atE s.es a.gr.toNat).1, true), updI s.F a.gr (some ⟨a, (judge a.ca a.wo (atE s.es a.gr.toNat).1 a.to).1, (judge a.ca a.wo (atE s.es a.gr.toNat).1 a.to).2.1, 1, fun i => decide ((i : Int) < n)⟩)⟩)) := Lib.hid (by unfold Ms.call; rw [if_neg (by omega), if_neg (by omega)])
  obtain ⟨en, hen⟩ : ∃ en, en = atE s.es a.gr.toNat := ⟨_, rfl⟩
  rw [← hen] at HG HCL
  have HOW : Hid (ownB en.1 = true) := Lib.hid (by rw [hen]; exact h.ok.own _ (by omega))
  clear h hco hk hwf hen hM
  unfold Ak.val
  refine (callsIn_wide (n := 6)).1 ?_
  have hro : Fence.wide.round = none := rfl
  refine callsIn_of_wp_marks Try.func30 rfl trivial ?_ hro
  simp only [Try.ntmps30, List.size_toArray, List.length_cons, List.length_nil, Nat.reduceAdd, Nat.reduceSub, Array.replicate_succ, Array.replicate_zero, List.push_toArray, List.append_toArray, List.nil_append, List.cons_append]
  refine wpIn_wide.2 ?_
  go_wp2_with fail
  obtain ⟨W0, hW0⟩ : ∃ W0, W0 = ((((w.alloc (.cells #[.pointer (some ⟨p, 0, none⟩)] 66)).alloc (.cells #[.int .i64 a.co, .int .i64 a.wo, .int .i64 a.ca, .int .i64 a.gr, .int .i64 a.to] 70)).alloc (.cells #[.bool false] 4)).alloc (.cells #[.int .i64 0] 28)) := ⟨_, rfl⟩
  rw [← hW0] at HC ⊢
  clear hW0
  obtain ⟨a0, a1, a2, a3, a4, a5⟩ := HC.out.1.ask
  obtain ⟨l0, l1, l2, l3⟩ := HC.out.1.lts
  obtain ⟨q0, q1, q2⟩ := (HH.out.ext HC.out.2).cells
  have pl := (HH.out.ext HC.out.2).lt.1
  refine region_past (by kernel_rfl) (by kernel_rfl) ?_; (repeat (go_big_quiet_step (fail))); refine wpQuiet_nil ?_; rintro _ ⟨py, rfl⟩
  obtain ⟨W1, hW1⟩ : ∃ W1, W1 = py.val := ⟨_, rfl⟩
  have HC1 : Hid (Cw w W1 p a ∧ Below w.heap.size w W1) := Lib.hid (by rw [hW1]; exact And.intro (HC.out.1.ext (ext_past py (Below.refl _ _))) (ext_trans HC.out.2 (ext_past py (Below.refl _ _))))
  rw [← hW1]
  have QH := Lib.hid (fun (W : World) (hb : Below W1.heap.size W1 W) => show (fun (w' : World) => w'.cell? ⟨w.heap.size, 0, none⟩ = some (.pointer (some ⟨p, 0, none⟩)) ∧ w'.cell? ⟨p, 0, none⟩ = some (.pointer (some ⟨t, 0, none⟩)) ∧ w'.cell? ⟨w.heap.size + 1, 3, none⟩ = some (.int .i64 a.gr)) W from ⟨(HC1.out.1.ext hb).ask.1, (HH.out.ext (ext_trans HC1.out.2 hb)).cells.1, (HC1.out.1.ext hb).ask.2.2.2.2.1⟩)
  have HG1 := Lib.hid (fun (W : World) (hb : Below W1.heap.size W1 W) => HG.out W (ext_trans HC1.out.2 hb))
  clear hW1 a0 a1 a2 a3 a4 a5 l0 l1 l2 l3 q0 q1 q2 pl ec ec2 ec3
  go_wp2_with fail
  go_cut [6, 7] from 28 to 37 (fun s6 s7 wc => ∃ E, s6 = .pointer (some ⟨E, 0, none⟩) ∧ s7 = .int .i64 0 ∧ Hid (Below W1.heap.size W1 wc ∧ W1.heap.size ≤ E ∧ wc.heap[E]? = some (.cells #[.int .i64 en.1, .bool en.2] 55 (0, 0))))
  case first =>
    have QQ := QH.out W1.drew (ext_drew (Below.refl _ _))
    go_region_held3 (fun w' => w'.cell? ⟨w.heap.size, 0, none⟩ = some (.pointer (some ⟨p, 0, none⟩)) ∧ w'.cell? ⟨p, 0, none⟩ = some (.pointer (some ⟨t, 0, none⟩)) ∧ w'.cell? ⟨w.heap.size + 1, 3, none⟩ = some (.int .i64 a.gr))
      (first | exact QQ | exact QH.out _ (by repeat (with_reducible first | exact Below.refl _ _ | assumption | (refine ext_next (by assumption) ?_) | apply ext_alloc | apply ext_past | apply ext_drew | apply ext_drewN | (refine ext_set ?_ (by first | exact Nat.le_refl _ | (simp; done))))))
      (first
        | (go_at_call 25; refine (HG1.out _ (by repeat (with_reducible first | exact Below.refl _ _ | assumption | (refine ext_next (by assumption) ?_) | apply ext_alloc | apply ext_past | apply ext_drew | apply ext_drewN))).mono ?_; rintro e w2 ⟨rfl, hb2⟩; have QQ := QH.out w2 (ext_next hb2 (by repeat (with_reducible first | exact Below.refl _ _ | assumption | (refine ext_next (by assumption) ?_) | apply ext_alloc | apply ext_past | apply ext_drew | apply ext_drewN))); have hE : w2.heap[W1.heap.size]? = some (.cells #[.int .i64 0, .bool false] 55 (0, 0)) := (hb2.block _ (by simp)).trans (by first | exact alNew rfl | exact alNew (by simp)); obtain ⟨e0, e1, e2, e3⟩ := ent_at hE)
        | (go_at_call 25; refine (HG1.out _ (by repeat (with_reducible first | exact Below.refl _ _ | assumption | (refine ext_next (by assumption) ?_) | apply ext_alloc | apply ext_past | apply ext_drew | apply ext_drewN))).mono ?_; rintro e w2 ⟨rfl, hb2⟩; have QQ := QH.out w2 (ext_next hb2 (by repeat (with_reducible first | exact Below.refl _ _ | assumption | (refine ext_next (by assumption) ?_) | apply ext_alloc | apply ext_past | apply ext_drew | apply ext_drewN)))))
    all_goals (try go_wp2_with fail)
    all_goals go_meet
    all_goals have hs2 := hb2.size
    all_goals exact ⟨_, rfl, rfl, Lib.hid ⟨by repeat (with_reducible first | exact Below.refl _ _ | assumption | (refine ext_next (by assumption) ?_) | apply ext_alloc | apply ext_past | apply ext_drew | apply ext_drewN | (refine ext_set ?_ (by first | exact Nat.le_refl _ | (simp; done)))), by first | exact Nat.le_refl _ | (simp at hs2; omega), by first | exact ent_set _ _ hE | exact alNew rfl⟩⟩
  case rest =>
    obtain ⟨E, rfl, rfl, HB⟩ := hcut
    have HCy := Lib.hid (And.intro (HC1.out.1.ext HB.out.1) (ext_trans HC1.out.2 HB.out.1))
    have HE := Lib.hid (And.intro HB.out.2.2 (Nat.lt_of_lt_of_le HC1.out.1.lt HB.out.2.1))
    have HMy := Lib.hid (HH.out.ext HCy.out.2)
    clear HC HC1 HB QH HG1 HG
    obtain ⟨a0, a1, a2, a3, a4, a5⟩ := HCy.out.1.ask
    obtain ⟨r0, r1, r2, r3⟩ := HCy.out.1.res
    obtain ⟨m0, m1, m2, m3⟩ := HCy.out.1.lts
    obtain ⟨e0, e1, e2, e3⟩ := ent_at HE.out.1
    have HP := Lib.hid (HPH.out _ HCy.out.2)
    go_step
    cases hF : s.F a.gr with
    | some r =>
      rw [hF] at HP HCL
      have hph : (r.ph != 0) = true := by
        have := (HH.out.ok.run _ _ hF).2.2.2.1
        rcases this with h | h <;> rw [h] <;> rfl
      have HRP : Hid (ruO (some r) = r) := Lib.hid rfl
      rw [HRP.out] at HP
      simp only [Option.isSome_some, if_true] at HCL
      clear hF
      go_wp2_with fail
      refine HP.out.mono ?_
      rintro e w2 ⟨rfl, hw2⟩
      rw [hw2]
      clear hw2
      go_wp2_with fail
      obtain ⟨d0, d1, _⟩ := HCy.out.1.fin false 17
      refine ⟨.tuple #[.bool false, .int .i64 17], by simp [results, Try.f30, go_sem, d0, d1], ?_⟩
      exact call_fail HH.out (ext_set (ext_set HCy.out.2 (by first | (simp; done) | (simp; omega))) (by first | (simp; done) | (simp; omega))) 17 (by decide) HCL.out
    | none =>
      rw [hF] at HP HCL
      have HRP : Hid ((ruO none).ph = 0) := Lib.hid rfl
      rw [HRP.out] at HP
      simp only [Option.isSome_none, if_false, Bool.false_eq_true] at HCL
      have HFN := Lib.hid hF
      clear hF
      go_wp2_with fail
      refine HP.out.mono ?_
      rintro e w2 ⟨rfl, hw2⟩
      rw [hw2]
      clear hw2
      go_wp2_with fail
      refine (mrun_any HMy.out HK.out.2.2).mono ?_
      rintro e w2 ⟨b2, v, ks, rfl, hib, hks, hb2, hv, hkl, hbw⟩
      have HC2 := Lib.hid (And.intro (HCy.out.1.ext hbw) (ext_trans HCy.out.2 hbw))
      have HM2 := Lib.hid (HMy.out.ext hbw)
      have HE2 := Lib.hid (And.intro ((hbw.block _ (lt_of HE.out.1)).trans HE.out.1) HE.out.2)
      have HIB := Lib.hid hib
      have HKS := Lib.hid (And.intro hks (show ks.length ≤ 1000 by have := HK.out.2.2; omega))
      have HBS := Lib.hid (busy_iff HH.out.ok a.co)
      clear hks hb2 hv hkl hbw HCy HMy HE HP a0 a1 a2 a3 a4 a5 r0 r1 r2 r3 m0 m1 m2 m3 e0 e1 e2 e3
      go_wp2_with fail
      refine (wpIn_wide (n := 6)).1 ?_
      refine wpIn_rangeFunc_runsV [(8, 0)] hro (by omega) (gf := 63) (lb := #[.pointer (some ⟨b2, 0, none⟩)]) rfl trivial (enters_of Try.func63 (by kernel_rfl) rfl)
        (valuesI_runs (6 - 1) (by omega) b2 v ks w2 hib HKS.out.2) (fun h k => h.trans k) (fun W => KeepI.refl _ _ _) (fun W l o o' hl ho hc hw => ?kp) (Below.refl _ _) (fun _ => rfl)
        (fun pre X => Below w2.heap.size w2 X ∧ ∀ k ∈ pre, k ∈ ks → (ruO (s.F k)).a.co ≠ a.co)
        (fun cc pre X => cc = .ret ∧ Hid (busyC s.F a.co = true) ∧ X.heap[w.heap.size + 2]? = some (.cells #[.bool false] 4 (0, 0)) ∧ X.heap[w.heap.size + 3]? = some (.cells #[.int .i64 13] 28 (0, 0)) ∧ Below w.heap.size w X)
        ?hI ?hIx ⟨Below.refl _ _, fun k hk => by cases hk⟩ ?assign ?body ?done ?stop
      case kp => exact ⟨World.putObj_heap_other (by have := HIB.out.lt.1; omega), fun g hg => World.putObj_heap_other (by have := HIB.out.lt.2 g hg; omega)⟩
      case hI =>
        rintro pre X Y row ⟨h1, h2⟩ hg hr
        exact ⟨h1.grown hg h1.size (fun k e => (hr k e).1), h2⟩
      case hIx =>
        rintro cc pre X Y row ⟨h1, h2, h3, h4, h5⟩ hg hr
        have hl := HC2.out.1.lt
        exact ⟨h1, h2, (hg.block _ (lt_of h3) (fun e => by have := (hr _ e.symm).1; omega)).trans h3, (hg.block _ (lt_of h4) (fun e => by have := (hr _ e.symm).1; omega)).trans h4, h5.grown hg h5.size (fun k e => by have := (hr k e).1; omega)⟩
      case assign =>
        rintro l x W K hK
        unfold varFrame at hK
        simp at hK
        gi_wp2
        exact hK
      case body =>
        rintro l2 pre x X hl2 hr ⟨hbX, hne⟩ hok
        have hxk : x ∈ ks := hok.subset (by simp)
        obtain ⟨r, hr9⟩ := Option.isSome_iff_exists.1 ((HKS.out.1 x).1 hxk)
        have hrun := HH.out.ok.run x r hr9
        have hwf : (Lit.int .i64 x).wf = true := wf_small hrun.1 (by have := HH.out.ok.len.2; omega)
        have hl := fun q : Past X => (HM2.out.ext (ext_trans hbX (ext_past q (Below.refl _ _)))).mp.look hwf
        obtain ⟨q0, q1, q2⟩ := (HM2.out.ext hbX).cells
        obtain ⟨a0, a1, a2, a3, a4, a5⟩ := (HC2.out.1.ext hbX).ask
        obtain ⟨r0, r1, r2, r3⟩ := (HC2.out.1.ext hbX).res
        obtain ⟨m0, m1, m2, m3⟩ := (HC2.out.1.ext hbX).lts
        have pl := (HM2.out.ext hbX).lt.1
        have HRU : Hid (ruO (s.F x) = r) := Lib.hid (by rw [hr9]; rfl)
        rw [HRU.out] at hl
        unfold Ru.val at hl
        have HLP := Lib.hid hl
        clear hl
        have hf1 := fld_td r.a.co r.a.wo r.a.ca r.a.gr r.a.to r.th r.ph r.sc (r.w 0) (r.w 1) (r.w 2) (r.w 3)
        have hf2 := fld_ak r.a.co r.a.wo r.a.ca r.a.gr r.a.to r.th r.sc
        have hf3 := fld_co r.a.co r.a.wo r.a.ca r.a.gr r.a.to
        have HX := Lib.hid (And.intro hbX (And.intro hne (And.intro hxk hr9)))
        clear hbX hne hxk hr9 hrun hwf hok hr
        unfold varFrame
        by_cases hq : r.a.co = a.co
        · have eq : (r.a.co == a.co) = true := by simpa using hq
          have HBU : Hid (busyC s.F a.co = true) := Lib.hid (HBS.out.2 ⟨x, (HKS.out.1 x).1 HX.out.2.2.1, by rw [HRU.out]; exact hq⟩)
          clear hq
          gi_wp2_with fail
          refine region_past_round (by kernel_rfl) (by kernel_rfl) (by kernel_rfl) ?_
          repeat (gi_big_quiet_step (fail))
          gi_big_quiet_want
          refine quietIn_lookup _ _ _ rfl (.agg #[.int .i64 r.a.co, .int .i64 r.a.wo, .int .i64 r.a.ca, .int .i64 r.a.gr, .int .i64 r.a.to, .int .i64 r.th, .bool r.sc, .int .i64 r.ph, .bool (r.w 0), .bool (r.w 1), .bool (r.w 2), .bool (r.w 3)]) (fun w' hw' => ?lk) ?nx
          case lk =>
            obtain ⟨q, rfl⟩ := hw'
            exact HLP.out q
          simp only [Act.put, List.setIfInBounds_toArray, List.set_cons_succ, List.set_cons_zero]
          go_big_quiet_on
          repeat (gi_big_quiet_step (fail))
          refine wpQuietIn_nil ?_
          rintro _ ⟨pz, rfl⟩
          clear r0 r1 r2 r3 m0 m1 m2 m3 a0 a1 a2 a3 a4 a5 q0 q1 q2 pl
          have HPZ := Lib.hid (And.intro pz.below (ext_past pz (Below.refl _ X)))
          have hCz := HC2.out.1.ext (ext_trans HX.out.1 HPZ.out.2)
          obtain ⟨r0, r1, r2, r3⟩ := hCz.res
          obtain ⟨m0, m1, m2, m3⟩ := hCz.lts
          have HCZ := Lib.hid hCz
          clear hCz
          gi_wp2_with fail
          have hw2 : w.heap.size + 3 < w2.heap.size := HC2.out.1.lt
          refine ⟨(KA.of_below HPZ.out.2).trans ((KA.setCell _ _ _ (by simp; omega)).trans (KA.setCell _ _ _ (by simp; omega))), rfl, HBU, ?_, ?_, ?_⟩
          · exact (Below.heap_setCell _ _ _ _ (by simp)).trans (set_of HCZ.out.c2)
          · exact set_of ((Below.heap_setCell _ _ _ _ (by simp)).trans HCZ.out.c3)
          · exact ((ext_trans HC2.out.2 (ext_trans HX.out.1 HPZ.out.2)).setCell (p := ⟨w.heap.size + 1 + 1, 0, none⟩) (by simp; omega) _).setCell (p := ⟨w.heap.size + 1 + 1 + 1, 0, none⟩) (by simp; omega) _
        · have eq : (r.a.co == a.co) = false := by simpa using hq
          have HNE := Lib.hid hq
          clear hq
          gi_wp2_with fail
          refine region_past_round (by kernel_rfl) (by kernel_rfl) (by kernel_rfl) ?_
          repeat (gi_big_quiet_step (fail))
          gi_big_quiet_want
          refine quietIn_lookup _ _ _ rfl (.agg #[.int .i64 r.a.co, .int .i64 r.a.wo, .int .i64 r.a.ca, .int .i64 r.a.gr, .int .i64 r.a.to, .int .i64 r.th, .bool r.sc, .int .i64 r.ph, .bool (r.w 0), .bool (r.w 1), .bool (r.w 2), .bool (r.w 3)]) (fun w' hw' => ?lk2) ?nx2
          case lk2 =>
            obtain ⟨q, rfl⟩ := hw'
            exact HLP.out q
          simp only [Act.put, List.setIfInBounds_toArray, List.set_cons_succ, List.set_cons_zero]
          go_big_quiet_on
          repeat (gi_big_quiet_step (fail))
          refine wpQuietIn_nil ?_
          rintro _ ⟨pz, rfl⟩
          clear r0 r1 r2 r3 m0 m1 m2 m3 a0 a1 a2 a3 a4 a5 q0 q1 q2 pl
          have HPZ := Lib.hid (And.intro pz.below (ext_past pz (Below.refl _ X)))
          have hCz := HC2.out.1.ext (ext_trans HX.out.1 HPZ.out.2)
          obtain ⟨r0, r1, r2, r3⟩ := hCz.res
          obtain ⟨m0, m1, m2, m3⟩ := hCz.lts
          have HCZ := Lib.hid hCz
          clear hCz
          gi_wp2_with fail
          refine ⟨KA.of_below HPZ.out.2, (HIB.out.ext HX.out.1).keepB HPZ.out.2 (Nat.le_refl _), ext_trans HX.out.1 HPZ.out.2, fun k hk hkk => ?_⟩
          rcases List.mem_append.1 hk with h9 | h9
          · exact HX.out.2.1 k h9 hkk
          · obtain rfl := List.mem_singleton.1 h9
            rw [HRU.out]
            exact HNE.out
      case done =>
        rintro D ys Y hD rfl ⟨hbY, hne⟩ hK
        have HBF : Hid (busyC s.F a.co = false) := Lib.hid (by
          cases hb9 : busyC s.F a.co with
          | false => rfl
          | true =>
            obtain ⟨k, hk1, hk2⟩ := HBS.out.1 hb9
            exact absurd hk2 (hne k ((HKS.out.1 k).2 hk1) ((HKS.out.1 k).2 hk1)))
        rw [HBF.out] at HCL
        simp only [Bool.false_eq_true, if_false] at HCL
        have HCY := Lib.hid (And.intro (HC2.out.1.ext hbY) (ext_trans HC2.out.2 hbY))
        have HEY := Lib.hid ((hbY.block _ (lt_of HE2.out.1)).trans HE2.out.1)
        have HKY := Lib.hid hK
        have HDW : Hid (w.heap.size + 3 < D ∧ E < D) := Lib.hid (by have := HC2.out.1.lt; have := lt_of HE2.out.1; omega)
        obtain ⟨a0, a1, a2, a3, a4, a5⟩ := HCY.out.1.ask
        obtain ⟨m0, m1, m2, m3⟩ := HCY.out.1.lts
        obtain ⟨e0, e1, e2, e3⟩ := ent_at HEY.out
        clear hbY hne hK hD HBF HBS HKS hib HIB HFN HRP HPH
        have HJ := Lib.hid (judge_any a.ca a.wo en.1 a.to Y)
        have HJT := Lib.hid (judge_own a.ca a.wo en.1 a.to)
        generalize judge a.ca a.wo en.1 a.to = j at HJ HCL HJT
        obtain ⟨th, sc, er⟩ := j
        dsimp only at HJ HCL HJT
        by_cases he : er = 0
        case neg =>
          have q1 : (er != 0) = true := by simpa using he
          have HNE := Lib.hid he
          rw [if_pos he] at HCL
          clear he
          go_wp2_with fail
          refine HJ.out.mono ?_
          rintro e w3 ⟨rfl, hb3⟩
          have HC3 := Lib.hid (And.intro (HCY.out.1.ext hb3) (ext_trans HCY.out.2 hb3))
          have hK3 := (hb3.block D (lt_of HKY.out)).trans HKY.out
          have HK3 := Lib.hid hK3
          obtain ⟨r0, r1, r2, r3⟩ := HC3.out.1.res
          obtain ⟨m0, m1, m2, m3⟩ := HC3.out.1.lts
          clear hb3 hK3
          go_wp2_with fail
          obtain ⟨d0, d1, _⟩ := HC3.out.1.fin false er
          have hD3 := HDW.out
          have hKf : ((w3.setCell ⟨w.heap.size + 2, 0, none⟩ (.bool false)).setCell ⟨w.heap.size + 3, 0, none⟩ (.int .i64 er)).heap[D]? = some (.deferred (some [])) := ((Below.heap_setCell _ _ _ _ (by simp; omega)).trans (Below.heap_setCell _ _ _ _ (by simp; omega))).trans HK3.out
          have hBf := ext_set (v := .int .i64 er) (c := ⟨w.heap.size + 3, 0, none⟩) (ext_set (v := .bool false) (c := ⟨w.heap.size + 2, 0, none⟩) HC3.out.2 (by simp)) (by simp)
          refine ⟨by simp, .inl ⟨_, _, rfl, run_takeDeferred hKf, ?_⟩⟩
          have k0 := cell_kept d0 (grownBy_putObj' _ D (.deferred none)) (fun r e => by cases e; exact ⟨_, hKf, rfl⟩)
          have k1 := cell_kept d1 (grownBy_putObj' _ D (.deferred none)) (fun r e => by cases e; exact ⟨_, hKf, rfl⟩)
          refine ⟨.tuple #[.bool false, .int .i64 er], by simp [results, Try.f30, go_sem, k0, k1], ?_⟩
          exact call_fail HH.out (hBf.trans (belowK_b (w := w) (Nat.le_refl _) _ D _ _ (by omega) hKf rfl rfl)) er HNE.out HCL.out
        subst he
        simp only [ne_eq, not_true_eq_false, if_false] at HCL
        have HMY := Lib.hid (HH.out.ext HCY.out.2)
        go_wp2_with fail
        refine HJ.out.mono ?_
        rintro e w3 ⟨rfl, hb3⟩
        have HC3 := Lib.hid (And.intro (HCY.out.1.ext hb3) (ext_trans HCY.out.2 hb3))
        have HE3 := Lib.hid ((hb3.block _ (lt_of HEY.out)).trans HEY.out)
        have HK3 := Lib.hid ((hb3.block D (lt_of HKY.out)).trans HKY.out)
        have HM3 := Lib.hid (HMY.out.ext hb3)
        clear hb3 a0 a1 a2 a3 a4 a5 m0 m1 m2 m3 e0 e1 e2 e3
        obtain ⟨a0, a1, a2, a3, a4, a5⟩ := HC3.out.1.ask
        obtain ⟨m0, m1, m2, m3⟩ := HC3.out.1.lts
        obtain ⟨e0, e1, e2, e3⟩ := ent_at HE3.out
        obtain ⟨q0, q1, q2⟩ := HM3.out.cells
        have pl := HM3.out.lt.1
        have HS3 := Lib.hid (set_yes t g s.es a.gr en.1 true w3.drew (HM3.out.ext (ext_drew (Below.refl _ _))).tb HK.out.1.1 HK.out.1.2 HOW.out)
        go_wp2_with fail
        go_still_tail 9, (by kernel_rfl)
        change wpList _ _ _ _ _ w3.drew
        go_wp2_with fail
        refine HS3.out.mono ?_
        rintro e w4 ⟨rfl, hg4, ht4⟩
        have hgw := HH.out.lt
        have HM4 := Lib.hid ((HM3.out.ext (ext_drew (Below.refl _ _))).setE a.gr.toNat en.1 true HOW.out hg4 ht4)
        have HG4 := Lib.hid ((Gt.of_below (g := g) (b := b) (ext_trans HC3.out.2 (ext_drew (Below.refl _ _)))).trans (Gt.of_grown (g := g) (b := b) hg4 (.inl rfl)))
        have HC4 := Lib.hid ((HC3.out.1.ext (ext_drew (Below.refl _ _))).far (Gt.of_grown (g := g) (b := b) hg4 (.inl rfl)) hgw.2.2.1 hgw.2.2.2)
        have HK4 := Lib.hid ((hg4.block D (lt_of HK3.out) (by simp; have := HDW.out; omega)).trans HK3.out)
        clear hg4 ht4 hgw a0 a1 a2 a3 a4 a5 m0 m1 m2 m3 e0 e1 e2 e3 q0 q1 q2 pl
        obtain ⟨a0, a1, a2, a3, a4, a5⟩ := HC4.out.ask
        obtain ⟨m0, m1, m2, m3⟩ := HC4.out.lts
        obtain ⟨q0, q1, q2⟩ := HM4.out.cells
        have pl := HM4.out.lt.1
        have hb5 : Below w4.heap.size w4 (w4.alloc (.cells #[.int .i64 a.co, .int .i64 a.wo, .int .i64 a.ca, .int .i64 a.gr, .int .i64 a.to, .int .i64 th, .bool sc, .int .i64 1, .bool false, .bool false, .bool false, .bool false] 114)) := ext_alloc _ (Below.refl _ _)
        obtain ⟨X, hX⟩ : ∃ X, X = w4.heap.size := ⟨_, rfl⟩
        have hx5 : (w4.alloc (.cells #[.int .i64 a.co, .int .i64 a.wo, .int .i64 a.ca, .int .i64 a.gr, .int .i64 a.to, .int .i64 th, .bool sc, .int .i64 1, .bool false, .bool false, .bool false, .bool false] 114)).heap[X]? = some (.cells #[.int .i64 a.co, .int .i64 a.wo, .int .i64 a.ca, .int .i64 a.gr, .int .i64 a.to, .int .i64 th, .bool sc, .int .i64 1, .bool false, .bool false, .bool false, .bool false] 114 (0, 0)) := by rw [hX]; exact alNew rfl
        have HP5 := Lib.hid (And.intro hb5 hx5)
        clear hb5 hx5
        go_wp2_with fail
        rw [← hX]
        obtain ⟨w5, hw5⟩ : ∃ w5, w5 = w4.alloc (.cells #[.int .i64 a.co, .int .i64 a.wo, .int .i64 a.ca, .int .i64 a.gr, .int .i64 a.to, .int .i64 th, .bool sc, .int .i64 1, .bool false, .bool false, .bool false, .bool false] 114) := ⟨_, rfl⟩
        rw [← hw5] at HP5 ⊢
        have HXW := Lib.hid hX
        clear hw5 hX a0 a1 a2 a3 a4 a5 m0 m1 m2 m3 q0 q1 q2 pl
        obtain ⟨m, hm⟩ : ∃ m : Nat, n = m := ⟨n.toNat, by have := HH.out.hn; omega⟩
        have hm4 : m ≤ 4 := by have := HH.out.hn; omega
        have HMN := Lib.hid hm
        rw [hm]
        clear hm
        go_loopg [99] m (fun gk s99 wr => ∃ k : Nat, s99 = .int .i64 k ∧ k + gk = m ∧ Hid (w5.grownBy wr (some X) ∧ wr.heap[X]? = some (.cells #[.int .i64 a.co, .int .i64 a.wo, .int .i64 a.ca, .int .i64 a.gr, .int .i64 a.to, .int .i64 th, .bool sc, .int .i64 1, .bool (decide (0 < k)), .bool (decide (1 < k)), .bool (decide (2 < k)), .bool (decide (3 < k))] 114 (0, 0))))
        case atStart => exact ⟨0, rfl, by omega, Lib.hid ⟨⟨rfl, rfl, rfl, Nat.le_refl _, fun _ _ _ => rfl⟩, by simpa using HP5.out.2⟩⟩
        case round =>
          obtain ⟨k, rfl, hk, HQ⟩ := hrel
          obtain ⟨y0, y1, y2, y3, y4, y5, y6, y7, y8, y9, y10, y11⟩ := twelve_at HQ.out.2
          have xf : ∀ i, wr.frozen? ⟨X, i, none⟩ = false := fun i => by simp [World.frozen?, HQ.out.2]
          have xl := lt_of HQ.out.2
          by_cases hlt : k < m
          · have ek : decide ((k : Int) < (m : Int)) = true := by simp; omega
            have ek2 : decide (k < m) = true := by simpa using hlt
            have HLT := Lib.hid (And.intro hk hlt)
            have h4 : k = 0 ∨ k = 1 ∨ k = 2 ∨ k = 3 := by omega
            clear hk hlt y0 y1 y2 y3 y4 y5 y6 y7
            rcases h4 with rfl | rfl | rfl | rfl
            · have hj : 0 < m := HLT.out.2
              have hj2 : (0 : Int) < (m : Int) := by omega
              go_wp2_with fail
              go_roundg (m - (0 + 1))
              case measure => have := HLT.out; omega
              case rel => exact ⟨0 + 1, by go_num, by have := HLT.out; omega, Lib.hid ⟨gr_two HQ.out.1 (sc_grown _ _ _ _), by have := set12 HQ.out.2 8 (.bool true); simpa using this⟩⟩
            · have hj : 1 < m := HLT.out.2
              have hj2 : (1 : Int) < (m : Int) := by omega
              go_wp2_with fail
              go_roundg (m - (1 + 1))
              case measure => have := HLT.out; omega
              case rel => exact ⟨1 + 1, by go_num, by have := HLT.out; omega, Lib.hid ⟨gr_two HQ.out.1 (sc_grown _ _ _ _), by have := set12 HQ.out.2 9 (.bool true); simpa using this⟩⟩
            · have hj : 2 < m := HLT.out.2
              have hj2 : (2 : Int) < (m : Int) := by omega
              go_wp2_with fail
              go_roundg (m - (2 + 1))
              case measure => have := HLT.out; omega
              case rel => exact ⟨2 + 1, by go_num, by have := HLT.out; omega, Lib.hid ⟨gr_two HQ.out.1 (sc_grown _ _ _ _), by have := set12 HQ.out.2 10 (.bool true); simpa using this⟩⟩
            · have hj : 3 < m := HLT.out.2
              have hj2 : (3 : Int) < (m : Int) := by omega
              go_wp2_with fail
              go_roundg (m - (3 + 1))
              case measure => have := HLT.out; omega
              case rel => exact ⟨3 + 1, by go_num, by have := HLT.out; omega, Lib.hid ⟨gr_two HQ.out.1 (sc_grown _ _ _ _), by have := set12 HQ.out.2 11 (.bool true); simpa using this⟩⟩
          · have ek : decide ((k : Int) < (m : Int)) = false := by simp; omega
            have ek2 : decide (k < m) = false := by simpa using hlt
            obtain rfl : k = m := by omega
            clear hk hlt y0 y1 y2 y3 y4 y5 y6 y7 y8 y9 y10 y11 xf xl
            obtain ⟨b0, hb0⟩ : ∃ b0, b0 = decide (0 < k) := ⟨_, rfl⟩
            obtain ⟨b1, hb1⟩ : ∃ b1, b1 = decide (1 < k) := ⟨_, rfl⟩
            obtain ⟨b2', hb2'⟩ : ∃ b2, b2 = decide (2 < k) := ⟨_, rfl⟩
            obtain ⟨b3, hb3⟩ : ∃ b3, b3 = decide (3 < k) := ⟨_, rfl⟩
            have hxr := HQ.out.2
            rw [← hb0, ← hb1, ← hb2', ← hb3] at hxr
            have HBB : Hid (b0 = decide (((0 : Nat) : Int) < n) ∧ b1 = decide (((1 : Nat) : Int) < n) ∧ b2' = decide (((2 : Nat) : Int) < n) ∧ b3 = decide (((3 : Nat) : Int) < n)) := Lib.hid (by
              rw [hb0, hb1, hb2', hb3, HMN.out]
              refine ⟨?_, ?_, ?_, ?_⟩ <;> (rw [Bool.eq_iff_iff]; simp <;> omega))
            obtain ⟨y0, y1, y2, y3, y4, y5, y6, y7, y8, y9, y10, y11⟩ := twelve_at hxr
            have xl := lt_of hxr
            have h54 : Below w4.heap.size w4 wr := HP5.out.1.grown HQ.out.1 HP5.out.1.size (fun q e => by cases e; have := HXW.out; omega)
            have hM6 := HM4.out.ext h54
            have hC6 := HC4.out.ext h54
            have hK6 := (h54.block D (lt_of HK4.out)).trans HK4.out
            have HG6 := Lib.hid (HG4.out.trans (Gt.of_below h54))
            obtain ⟨DD, hDD, hFF⟩ := hM6.mp
            have HM6 := Lib.hid (And.intro hM6 (And.intro hDD hFF))
            have HC6 := Lib.hid hC6
            have HK6 := Lib.hid hK6
            obtain ⟨a0, a1, a2, a3, a4, a5⟩ := hC6.ask
            obtain ⟨m0, m1, m2, m3⟩ := hC6.lts
            obtain ⟨q0, q1, q2⟩ := hM6.cells
            have pl := hM6.lt.1
            clear hb0 hb1 hb2' hb3 hxr h54 hM6 hC6 hK6 hDD hFF
            go_wp2_with fail
            go_still_tail 7, (by kernel_rfl)
            change wpList _ _ _ _ _ wr.drew
            go_wp2_with (at_mapUpdate; refine wpList_mapUpdate_own _ rfl _ _ _ 74 rfl 3 114 keyed_int Try.underlying74 RV b M DD rfl HM6.out.2.1.drew (by unfold maxLen; have := HK.out.2.2; omega) _ _ (.int .i64 a.gr) rfl rfl HKW.out _ [] rfl ?_)
            intro w9 hown hgrow
            obtain ⟨rn, hrn⟩ : ∃ rn : Ru, rn = ⟨a, th, sc, 1, fun i => decide ((i : Int) < n)⟩ := ⟨_, rfl⟩
            have hput : w9.ownsMap Try.prog 3 RV b (M + 1) (DD.put (.int .i64 a.gr) (.held rn.val)) := by
              have e1 : rn.val = .agg #[.int .i64 a.co, .int .i64 a.wo, .int .i64 a.ca, .int .i64 a.gr, .int .i64 a.to, .int .i64 th, .bool sc, .int .i64 1, .bool b0, .bool b1, .bool b2', .bool b3] := by rw [hrn, HBB.out.1, HBB.out.2.1, HBB.out.2.2.1, HBB.out.2.2.2]; rfl
              rw [e1]
              exact hown
            have hmn := (HM6.out.1.ext (ext_drew (Below.refl _ _))).put rn a.gr HM6.out.2.1.drew HM6.out.2.2 hput hgrow (by rw [hrn]; exact ⟨HK.out.1.1, by have := HK.out.1.2; simpa using this, rfl, .inl rfl, HJT.out⟩)
            have hgt := HG6.out.trans ((Gt.of_below (g := g) (b := b) (ext_drew (Below.refl _ wr))).trans (Gt.of_grown (g := g) (b := b) hgrow (.inr rfl)))
            have hgw := HH.out.lt
            have hC9 := (HC6.out.ext (ext_drew (Below.refl _ _))).far (Gt.of_grown (g := g) (b := b) hgrow (.inr rfl)) hgw.2.2.1 hgw.2.2.2
            have hK9 := (hgrow.block D (lt_of HK6.out) (by simp; have := HDW.out; omega)).trans HK6.out
            have HR9 := Lib.hid (And.intro hmn (And.intro hgt (And.intro hC9 hK9)))
            have HRN := Lib.hid hrn
            obtain ⟨r0, r1, r2, r3⟩ := hC9.res
            obtain ⟨n0, n1, n2, n3⟩ := hC9.lts
            clear hown hgrow hput hmn hgt hC9 hK9 hrn y0 y1 y2 y3 y4 y5 y6 y7 y8 y9 y10 y11 xl a0 a1 a2 a3 a4 a5 m0 m1 m2 m3 q0 q1 q2 pl
            go_wp2_with fail
            obtain ⟨d0, d1, hkp⟩ := HR9.out.2.2.1.fin true 0
            have hD9 := HDW.out
            have hKf : ((w9.setCell ⟨w.heap.size + 2, 0, none⟩ (.bool true)).setCell ⟨w.heap.size + 3, 0, none⟩ (.int .i64 0)).heap[D]? = some (.deferred (some [])) := ((Below.heap_setCell _ _ _ _ (by simp; omega)).trans (Below.heap_setCell _ _ _ _ (by simp; omega))).trans HR9.out.2.2.2
            refine ⟨by simp, .inl ⟨_, _, rfl, run_takeDeferred hKf, ?_⟩⟩
            have k0 := cell_kept d0 (grownBy_putObj' _ D (.deferred none)) (fun r e => by cases e; exact ⟨_, hKf, rfl⟩)
            have k1 := cell_kept d1 (grownBy_putObj' _ D (.deferred none)) (fun r e => by cases e; exact ⟨_, hKf, rfl⟩)
            refine ⟨.tuple #[.bool true, .int .i64 0], by simp [results, Try.f30, go_sem, k0, k1], ?_⟩
            rw [HCL.out]
            have hkp2 : ∀ q, q < w.heap.size → (((w9.setCell ⟨w.heap.size + 2, 0, none⟩ (.bool true)).setCell ⟨w.heap.size + 3, 0, none⟩ (.int .i64 0)).putObj D (.deferred none)).heap[q]? = w9.heap[q]? := fun q hq => (World.putObj_heap_other (by omega)).trans (hkp q hq)
            have hl9 := HH.out.lt
            have hmn9 := HR9.out.1
            rw [HRN.out] at hmn9
            have hg9 := HR9.out.2.1
            refine ⟨rfl, hmn9.keep (by simp) (hkp2 _ hl9.1) (hkp2 _ hl9.2.1) (hkp2 _ hl9.2.2.1) (hkp2 _ hl9.2.2.2), ⟨hg9.os, hg9.tape, hg9.output, by have := hg9.size; simpa using this, fun q h1 h2 h3 => (hkp2 q h1).trans (hg9.block q h1 h2 h3)⟩⟩
      case stop =>
        rintro D cc pre Y hD _ ⟨rfl, hbs, h2, h3, hB⟩ hK
        have d0 := cell_of h2
        have d1 := cell_of h3
        have hlt := HC2.out.1.lt
        rw [hbs.out] at HCL
        simp only [if_true] at HCL
        clear h2 h3 hbs
        gi_wp2_with fail
        refine ⟨by simp, .inl ⟨_, _, rfl, run_takeDeferred hK, ?_⟩⟩
        have k0 := cell_kept d0 (grownBy_putObj' _ D (.deferred none)) (fun r e => by cases e; exact ⟨_, hK, rfl⟩)
        have k1 := cell_kept d1 (grownBy_putObj' _ D (.deferred none)) (fun r e => by cases e; exact ⟨_, hK, rfl⟩)
        refine ⟨.tuple #[.bool false, .int .i64 13], by simp [results, Try.f30, go_sem, k0, k1], ?_⟩
        exact call_fail HH.out (hB.trans (belowK_b (w := w) (Nat.le_refl _) _ D _ _ (by omega) hK rfl rfl)) 13 (by decide) HCL.out
theorem mcall_any (h : Mn w B p t g b n M s) (hM : M < 1000) (a : Ak) :
    Calls Try.prog 30 #[.pointer (some ⟨p, 0, none⟩), a.val] w fun e w' => e = .returned (.tuple #[.bool ((s.call n a).1 == 0), .int .i64 (s.call n a).1]) ∧ Mn w' B p t g b n (M + 1) (s.call n a).2 ∧ Gt w w' g b := by
  by_cases hco : a.co < 0 ∨ n ≤ a.co
  · refine (mcall_co h a hco).mono fun e w' ⟨he, hb⟩ => ?_
    rw [he]
    exact call_fail h hb 1 (by decide) (by unfold Ms.call; rw [if_pos hco])
  by_cases hk : a.gr < 0 ∨ s.es.length ≤ a.gr
  · refine (mcall_gr h a (by omega) hk).mono fun e w' ⟨he, hb⟩ => ?_
    rw [he]
    exact call_fail h hb 10 (by decide) (by unfold Ms.call; rw [if_neg hco, if_pos hk])
  exact mcall_in h hM a (by omega) (by omega)
end

end Go.Proofs.Ytjggnhcdnfmmeaa
