/- What this text holds: a granule is swept. No condition. -/
import Derived.Test.YtjggnhcdnfmmeaaMoD
import Derived.Lib.SmallJoins
namespace Go.Proofs.Ytjggnhcdnfmmeaa
open Go.RowKit Go.Maps

theorem Mn.swp {w w1 w2 : World} {B p t g b M : Nat} {n : Int} {s : Ms} {D : DataW Value} (h : Mn w B p t g b n M s) (k : Nat) (o : Int) (ho : ownB o = true) (h1 : w.grownBy w1 (some g)) (ht : Tb w1 t g (s.es.set k (o, false)))
    (hF : ∀ k : Int, D.atKey (.int .i64 k) (.held Ru.zero.val) = .held (ruO (s.F k)).val ∧ has D (.int .i64 k) = (s.F k).isSome)
    (h2 : w2.ownsMap Try.prog 3 RV b M (D.del (.int .i64 k))) (hg : w1.grownBy w2 (some b)) :
    Mn w2 B p t g b n M ⟨s.es.set k (o, false), updI s.F k none⟩ ∧ Gt w w2 g b := by
  obtain ⟨n1, n2, n3, n4, n5⟩ := h.ne
  have hl := h.lt
  have hs1 := h1.size
  refine ⟨⟨⟨by simpa using h.ok.len, fun i hi => ?_, fun i r' hr => ?_⟩, h.hn, ?_, ht.of_blocks hg.size (hg.block t (by omega) (by simpa using n4)) (hg.block g (by omega) (by simpa using n5)), Mm.del k hF h2, h.ne, h.lo⟩, (Gt.of_grown h1 (.inl rfl)).trans (Gt.of_grown hg (.inr rfl))⟩
  · have hi' : i < s.es.length := by simpa using hi
    by_cases e : k = i
    · subst e
      simp [atE, hi', ho]
    · have := h.ok.own i hi'
      simpa [atE, List.getElem?_set_ne e] using this
  · by_cases e : i = k
    · subst e
      have h9 : updI s.F k none k = some r' := hr
      rw [updI_same] at h9
      cases h9
    · have h9 : updI s.F k none i = some r' := hr
      rw [updI_ne _ _ e] at h9
      have := h.ok.run i r' h9
      simpa using this
  · exact (hg.block p (by omega) (by simpa using n3)).trans ((h1.block p hl.1 (by simpa using n2)).trans h.box)
theorem seven_at {W : World} {X : Nat} {t : TypeId} {fr : Nat × Nat} {v0 v1 v2 v3 v4 v5 v6 : Value} (h : W.heap[X]? = some (.cells #[v0, v1, v2, v3, v4, v5, v6] t fr)) : W.cell? ⟨X, 0, none⟩ = some v0 ∧ W.cell? ⟨X, 1, none⟩ = some v1 ∧ W.cell? ⟨X, 2, none⟩ = some v2 ∧ W.cell? ⟨X, 3, none⟩ = some v3 ∧ W.cell? ⟨X, 4, none⟩ = some v4 ∧ W.cell? ⟨X, 5, none⟩ = some v5 ∧ W.cell? ⟨X, 6, none⟩ = some v6 := by
  simp [World.cell?, h]
/-- Seven stores. -/
def set7 (w : World) (b : Nat) (x0 x1 x2 x3 x4 x5 x6 : Value) : World := ((((((w.setCell ⟨b, 0, none⟩ x0).setCell ⟨b, 1, none⟩ x1).setCell ⟨b, 2, none⟩ x2).setCell ⟨b, 3, none⟩ x3).setCell ⟨b, 4, none⟩ x4).setCell ⟨b, 5, none⟩ x5).setCell ⟨b, 6, none⟩ x6
theorem set7_blk {w : World} {b : Nat} {y0 y1 y2 y3 y4 y5 y6 : Value} {t : TypeId} (x0 x1 x2 x3 x4 x5 x6 : Value) (h : w.heap[b]? = some (.cells #[y0, y1, y2, y3, y4, y5, y6] t (0, 0))) : (set7 w b x0 x1 x2 x3 x4 x5 x6).heap[b]? = some (.cells #[x0, x1, x2, x3, x4, x5, x6] t (0, 0)) := by
  have s0 := Joins.block_setCell (i := 0) h x0
  have s1 := Joins.block_setCell (i := 1) s0 x1
  have s2 := Joins.block_setCell (i := 2) s1 x2
  have s3 := Joins.block_setCell (i := 3) s2 x3
  have s4 := Joins.block_setCell (i := 4) s3 x4
  have s5 := Joins.block_setCell (i := 5) s4 x5
  have s6 := Joins.block_setCell (i := 6) s5 x6
  unfold set7
  simpa using s6
theorem sc_grown (w : World) (b i : Nat) (x : Value) : w.grownBy (w.setCell ⟨b, i, none⟩ x) (some b) := ⟨rfl, rfl, rfl, by simp, fun k _ hk => Below.heap_setCell _ _ _ _ (fun e => hk (by rw [e]))⟩
theorem gr_two {a b c : World} {r : Option Nat} (h : a.grownBy b r) (k : b.grownBy c r) : a.grownBy c r :=
  ⟨k.os.trans h.os, k.tape.trans h.tape, k.output.trans h.output, Nat.le_trans h.size k.size, fun q hq hn => (k.block q (Nat.lt_of_lt_of_le hq h.size) hn).trans (h.block q hq hn)⟩
theorem set7_grown (w : World) (b : Nat) (x0 x1 x2 x3 x4 x5 x6 : Value) : w.grownBy (set7 w b x0 x1 x2 x3 x4 x5 x6) (some b) :=
  gr_two (gr_two (gr_two (gr_two (gr_two (gr_two (sc_grown _ _ _ _) (sc_grown _ _ _ _)) (sc_grown _ _ _ _)) (sc_grown _ _ _ _)) (sc_grown _ _ _ _)) (sc_grown _ _ _ _)) (sc_grown _ _ _ _)

section
variable {w : World} {B p t g b M : Nat} {n : Int} {s : Ms}
set_option maxRecDepth 100000 in
set_option maxHeartbeats 4000000 in
theorem mswept_no (h : Mn w B p t g b n M s) (k : Int) (hk : k < 0 ∨ s.es.length ≤ k) :
    Calls Try.prog 32 #[.pointer (some ⟨p, 0, none⟩), .int .i64 k] w fun e w' => e = .returned (.tuple #[Td.zero.val, .int .i64 10]) ∧ Below w.heap.size w w' := by
  have HH := Lib.hid h
  have HG := Lib.hid (fun (W : World) (hb : Below w.heap.size w W) => get_no t g s.es k W (h.ext hb).tb hk)
  obtain ⟨c0, c1, c2⟩ := h.cells
  have pl := h.lt.1
  clear h hk
  go_enter Try.func32, Try.ntmps32
  go_wp2_with fail
  refine (HG.out _ (by repeat (with_reducible first | exact Below.refl _ _ | assumption | (refine ext_next (by assumption) ?_) | apply ext_alloc | apply ext_past | apply ext_drew | apply ext_drewN))).mono ?_
  rintro e w1 ⟨rfl, hb⟩
  have hx := (hb.block w.heap.size (by simp)).trans (alNew rfl)
  obtain ⟨y0, y1, y2, y3, y4, y5, y6⟩ := seven_at hx
  have xf : ∀ i, w1.frozen? ⟨w.heap.size, i, none⟩ = false := fun i => by simp [World.frozen?, hx]
  have xl := lt_of hx
  have HX := Lib.hid hx
  have HB := Lib.hid (ext_next hb (by repeat (with_reducible first | exact Below.refl _ _ | assumption | (refine ext_next (by assumption) ?_) | apply ext_alloc | apply ext_past | apply ext_drew | apply ext_drewN)) : Below w.heap.size w w1)
  clear hx hb
  go_wp2_with fail
  obtain ⟨W3, hW3⟩ : ∃ W3, W3 = set7 w1 w.heap.size (.int .i64 0) (.int .i64 0) (.int .i64 0) (.int .i64 0) (.int .i64 0) (.int .i64 0) (.bool false) := ⟨_, rfl⟩
  have hbk := set7_blk (.int .i64 0) (.int .i64 0) (.int .i64 0) (.int .i64 0) (.int .i64 0) (.int .i64 0) (.bool false) HX.out
  have hgr := set7_grown w1 w.heap.size (.int .i64 0) (.int .i64 0) (.int .i64 0) (.int .i64 0) (.int .i64 0) (.int .i64 0) (.bool false)
  rw [← hW3] at hbk hgr
  unfold set7 at hW3
  rw [← hW3]
  obtain ⟨d0, d1, d2, d3, d4, d5, d6⟩ := seven_at (alOld (o := .cells #[.int .i64 0, .bool false] 55) hbk)
  (try simp only [Exit.inBlock, Exit.then]); refine bodyPost_ret (by simp [results, Try.results32, go_sem, d0, d1, d2, d3, d4, d5, d6]; try rfl) rfl ?_
  exact ⟨rfl, ext_trans (HB.out.grown hgr HB.out.size (fun k e => by cases e; exact Nat.le_refl _)) (ext_alloc _ (Below.refl _ _))⟩
set_option maxRecDepth 100000 in
set_option maxHeartbeats 4000000 in
theorem mswept_ph (h : Mn w B p t g b n M s) (k : Int) (hk : 0 ≤ k ∧ k < s.es.length) (hph : (ruO (s.F k)).ph ≠ 2) :
    Calls Try.prog 32 #[.pointer (some ⟨p, 0, none⟩), .int .i64 k] w fun e w' => e = .returned (.tuple #[Td.zero.val, .int .i64 16]) ∧ Below w.heap.size w w' := by
  have HH := Lib.hid h
  have hk15 : (Lit.int .i64 k).wf = true := wf_small hk.1 (by have := h.ok.len.2; omega)
  have HG := Lib.hid (fun (W : World) (hb : Below w.heap.size w W) => get_yes t g s.es k W (h.ext hb).tb hk.1 hk.2)
  have HL := Lib.hid (fun (W : World) (hb : Below w.heap.size w W) => (h.ext hb).mp.look hk15)
  obtain ⟨c0, c1, c2⟩ := h.cells
  have pl := h.lt.1
  obtain ⟨r, hr⟩ : ∃ r, r = ruO (s.F k) := ⟨_, rfl⟩
  rw [← hr] at HL hph
  unfold Ru.val at HL
  have e1 : (r.ph != 2) = true := by simpa using hph
  have e2 : (r.ph == 2) = false := by simpa using hph
  generalize atE s.es k.toNat = en at HG
  clear h hk hk15 hr hph
  go_enter Try.func32, Try.ntmps32
  go_wp2_with fail
  refine (HG.out _ (by repeat (with_reducible first | exact Below.refl _ _ | assumption | (refine ext_next (by assumption) ?_) | apply ext_alloc | apply ext_past | apply ext_drew | apply ext_drewN))).mono ?_
  rintro e w1 ⟨rfl, hb⟩
  have hx := (hb.block w.heap.size (by simp)).trans (alNew rfl)
  obtain ⟨y0, y1, y2, y3, y4, y5, y6⟩ := seven_at hx
  have xf : ∀ i, w1.frozen? ⟨w.heap.size, i, none⟩ = false := fun i => by simp [World.frozen?, hx]
  have xl := lt_of hx
  have HX := Lib.hid hx
  have HB := Lib.hid (ext_next hb (by repeat (with_reducible first | exact Below.refl _ _ | assumption | (refine ext_next (by assumption) ?_) | apply ext_alloc | apply ext_past | apply ext_drew | apply ext_drewN)) : Below w.heap.size w w1)
  obtain ⟨f0, f1, f2⟩ := (HH.out.ext HB.out).cells
  have pl1 := (HH.out.ext HB.out).lt.1
  have hl := HL.out (w1.alloc (.cells #[.int .i64 en.1, .bool en.2] 55)) (ext_trans HB.out (ext_alloc _ (Below.refl _ _)))
  clear hx hb
  go_wp2_with fail
  obtain ⟨W3, hW3⟩ : ∃ W3, W3 = set7 w1 w.heap.size (.int .i64 0) (.int .i64 0) (.int .i64 0) (.int .i64 0) (.int .i64 0) (.int .i64 0) (.bool false) := ⟨_, rfl⟩
  have hbk := set7_blk (.int .i64 0) (.int .i64 0) (.int .i64 0) (.int .i64 0) (.int .i64 0) (.int .i64 0) (.bool false) HX.out
  have hgr := set7_grown w1 w.heap.size (.int .i64 0) (.int .i64 0) (.int .i64 0) (.int .i64 0) (.int .i64 0) (.int .i64 0) (.bool false)
  rw [← hW3] at hbk hgr
  unfold set7 at hW3
  rw [← hW3]
  obtain ⟨d0, d1, d2, d3, d4, d5, d6⟩ := seven_at (alOld (o := .cells #[.int .i64 r.a.co, .int .i64 r.a.wo, .int .i64 r.a.ca, .int .i64 r.a.gr, .int .i64 r.a.to, .int .i64 r.th, .bool r.sc, .int .i64 r.ph, .bool (r.w 0), .bool (r.w 1), .bool (r.w 2), .bool (r.w 3)] 114) (alOld (o := .cells #[.int .i64 en.1, .bool en.2] 55) hbk))
  (try simp only [Exit.inBlock, Exit.then]); refine bodyPost_ret (by simp [results, Try.results32, go_sem, d0, d1, d2, d3, d4, d5, d6]; try rfl) rfl ?_
  exact ⟨rfl, ext_trans (HB.out.grown hgr HB.out.size (fun k e => by cases e; exact Nat.le_refl _)) (ext_alloc _ (ext_alloc _ (Below.refl _ _)))⟩
set_option maxRecDepth 100000 in
set_option maxHeartbeats 4000000 in
theorem mswept_ok (h : Mn w B p t g b n M s) (k : Int) (hk : 0 ≤ k ∧ k < s.es.length) (hph : (ruO (s.F k)).ph = 2) :
    Calls Try.prog 32 #[.pointer (some ⟨p, 0, none⟩), .int .i64 k] w fun e w' => e = .returned (.tuple #[(⟨(ruO (s.F k)).a, (ruO (s.F k)).th, (ruO (s.F k)).sc⟩ : Td).val, .int .i64 0]) ∧ Mn w' B p t g b n M ⟨s.es.set k.toNat ((ruO (s.F k)).th, false), updI s.F k none⟩ ∧ Gt w w' g b := by
  have HH := Lib.hid h
  have hk15 : (Lit.int .i64 k).wf = true := wf_small hk.1 (by have := h.ok.len.2; omega)
  have HKW := Lib.hid (key_int hk15)
  have HK := Lib.hid hk
  have HG := Lib.hid (fun (W : World) (hb : Below w.heap.size w W) => get_yes t g s.es k W (h.ext hb).tb hk.1 hk.2)
  have HL := Lib.hid (fun (W : World) (hb : Below w.heap.size w W) => (h.ext hb).mp.look hk15)
  obtain ⟨c0, c1, c2⟩ := h.cells
  have pl := h.lt.1
  obtain ⟨r, hr⟩ : ∃ r, r = ruO (s.F k) := ⟨_, rfl⟩
  rw [← hr] at HL hph ⊢
  unfold Ru.val at HL
  rw [hph] at HL
  have HOK : Hid (r.a.gr = k ∧ ownB r.th = true) := Lib.hid (by
    obtain ⟨r', hr'⟩ := Ms.some_of (s := s) (k := k) (by rw [← hr, hph]; omega)
    have h9 := h.ok.run k r' hr'
    have h8 : r = r' := by rw [hr, hr']; rfl
    rw [h8]
    exact ⟨h9.2.2.1, h9.2.2.2.2⟩)
  rw [HOK.out.1] at HL
  have HS := Lib.hid (fun (W : World) (hb : Below w.heap.size w W) => set_yes t g s.es k r.th false W (h.ext hb).tb hk.1 hk.2 HOK.out.2)
  generalize atE s.es k.toNat = en at HG
  clear h hk hk15 hr hph
  go_enter Try.func32, Try.ntmps32
  go_wp2_with fail
  refine (HG.out _ (by repeat (with_reducible first | exact Below.refl _ _ | assumption | (refine ext_next (by assumption) ?_) | apply ext_alloc | apply ext_past | apply ext_drew | apply ext_drewN))).mono ?_
  rintro e w1 ⟨rfl, hb⟩
  have hx := (hb.block w.heap.size (by simp)).trans (alNew rfl)
  have HB := Lib.hid (ext_next hb (by repeat (with_reducible first | exact Below.refl _ _ | assumption | (refine ext_next (by assumption) ?_) | apply ext_alloc | apply ext_past | apply ext_drew | apply ext_drewN)) : Below w.heap.size w w1)
  obtain ⟨f0, f1, f2⟩ := (HH.out.ext HB.out).cells
  have pl1 := (HH.out.ext HB.out).lt.1
  have hl := HL.out (w1.alloc (.cells #[.int .i64 en.1, .bool en.2] 55)) (ext_trans HB.out (ext_alloc _ (Below.refl _ _)))
  obtain ⟨w3, hw3⟩ : ∃ w3, w3 = (w1.alloc (.cells #[.int .i64 en.1, .bool en.2] 55)).alloc (.cells #[.int .i64 r.a.co, .int .i64 r.a.wo, .int .i64 r.a.ca, .int .i64 k, .int .i64 r.a.to, .int .i64 r.th, .bool r.sc, .int .i64 2, .bool (r.w 0), .bool (r.w 1), .bool (r.w 2), .bool (r.w 3)] 114) := ⟨_, rfl⟩
  have hb3 : Below w1.heap.size w1 w3 := by rw [hw3]; exact ext_alloc _ (ext_alloc _ (Below.refl _ _))
  have hx3 : w3.heap[w1.heap.size + 1]? = some (.cells #[.int .i64 r.a.co, .int .i64 r.a.wo, .int .i64 r.a.ca, .int .i64 k, .int .i64 r.a.to, .int .i64 r.th, .bool r.sc, .int .i64 2, .bool (r.w 0), .bool (r.w 1), .bool (r.w 2), .bool (r.w 3)] 114 (0, 0)) := by rw [hw3]; exact alNew (by simp)
  have HP3 := Lib.hid (And.intro (ext_trans HB.out hb3) (And.intro hx3 ((hb3.block _ (lt_of hx)).trans hx)))
  have HSZ := Lib.hid (show w.heap.size < w1.heap.size from lt_of hx)
  clear hx hb hb3 hx3
  go_wp2_with fail
  rw [← hw3]
  clear hw3 hl f0 f1 f2 pl1
  have hh3 := HH.out.ext HP3.out.1
  obtain ⟨D, hD, hF⟩ := hh3.mp
  have HM3 := Lib.hid (And.intro hh3 (And.intro hD hF))
  obtain ⟨d0, d1, d2⟩ := hh3.cells
  have pl3 := hh3.lt.1
  obtain ⟨y0, y1, y2, y3, y4, y5, y6, y7, y8, y9, y10, y11⟩ := twelve_at HP3.out.2.1
  have xl := lt_of HP3.out.2.1
  clear hh3 hD hF
  go_still_tail 12, (by kernel_rfl)
  change wpList _ _ _ _ _ w3.drew
  go_wp2_with fail
  refine (HS.out _ (ext_trans HP3.out.1 (ext_drew (Below.refl _ _)))).mono ?_
  rintro e w4 ⟨rfl, hg4, ht4⟩
  obtain ⟨n1, n2, n3, n4, n5⟩ := HM3.out.1.ne
  have hl3 := HM3.out.1.lt
  have hk4 : ∀ q, q < w3.heap.size → q ≠ g → w4.heap[q]? = w3.heap[q]? := fun q h1 h2 => hg4.block q h1 (by simpa using h2)
  have hg9 : g < w.heap.size := HH.out.lt.2.2.1
  have hb9 : b < w.heap.size := HH.out.lt.2.2.2
  have hsz := HSZ.out
  have hown4 : w4.ownsMap Try.prog 3 RV b M D := (HM3.out.2.1.drew).kept hg4 (by simpa using n5.symm)
  have hx4 := (hk4 _ (lt_of HP3.out.2.1) (by omega)).trans HP3.out.2.1
  have hr4 := (hk4 _ (lt_of HP3.out.2.2) (by omega)).trans HP3.out.2.2
  have hp4 := (hk4 _ hl3.1 n2).trans HM3.out.1.box
  have q2 : w4.cell? ⟨p, 2, none⟩ = some (.map (some b)) := by simp [World.cell?, hp4]
  have ql := lt_of hp4
  have HX4 := Lib.hid (And.intro hx4 hr4)
  have HG4 := Lib.hid (And.intro hg4 ht4)
  clear hg4 ht4 hk4 hx4 hr4 hp4 d0 d1 d2 pl3 y0 y1 y2 y3 y4 y5 y6 y7 y8 y9 y10 y11 xl hl3
  go_wp2_with (at_delete; refine wpList_delete_own _ rfl _ _ 74 3 rfl 114 keyed_int Try.underlying74 RV b M D rfl hown4 _ (.int .i64 k) rfl HKW.out ?_)
  intro w5 hown5 hturn5
  have hg5 := hturn5.grown
  have hx5 := (hg5.block _ (lt_of HX4.out.1) (by simp; omega)).trans HX4.out.1
  have hr5 := (hg5.block _ (lt_of HX4.out.2) (by simp; omega)).trans HX4.out.2
  obtain ⟨y0, y1, y2, y3, y4, y5, y6, y7, y8, y9, y10, y11⟩ := twelve_at hx5
  have xl := lt_of hx5
  obtain ⟨z0, z1, z2, z3, z4, z5, z6⟩ := seven_at hr5
  have zf : ∀ i, w5.frozen? ⟨w.heap.size, i, none⟩ = false := fun i => by simp [World.frozen?, hr5]
  have zl := lt_of hr5
  obtain ⟨kk, hkk⟩ : ∃ kk : Nat, k = kk := ⟨k.toNat, by have := HK.out.1; omega⟩
  have HMN : Hid (Mn w5 B p t g b n M ⟨s.es.set k.toNat (r.th, false), updI s.F k none⟩ ∧ Gt w3 w5 g b) := Lib.hid (by
    have h9 := HG4.out.2
    have h8 := hown5
    rw [hkk] at h9 h8 ⊢
    simp only [Int.toNat_natCast] at h9 ⊢
    obtain ⟨q1, q2⟩ := Mn.swp (w := w3.drew) (HM3.out.1.ext (ext_drew (Below.refl _ _))) kk r.th HOK.out.2 HG4.out.1 h9 HM3.out.2.2 h8 hg5
    exact ⟨q1, (Gt.of_below (ext_drew (Below.refl _ _))).trans q2⟩)
  have HR5 := Lib.hid hr5
  clear hown5 hturn5 hg5 hx5 hr5 hown4 q2 ql hkk
  go_wp2_with fail
  obtain ⟨W9, hW9⟩ : ∃ W9, W9 = set7 w5 w.heap.size (.int .i64 r.a.co) (.int .i64 r.a.wo) (.int .i64 r.a.ca) (.int .i64 k) (.int .i64 r.a.to) (.int .i64 r.th) (.bool r.sc) := ⟨_, rfl⟩
  have hbk := set7_blk (.int .i64 r.a.co) (.int .i64 r.a.wo) (.int .i64 r.a.ca) (.int .i64 k) (.int .i64 r.a.to) (.int .i64 r.th) (.bool r.sc) HR5.out
  have hgr := set7_grown w5 w.heap.size (.int .i64 r.a.co) (.int .i64 r.a.wo) (.int .i64 r.a.ca) (.int .i64 k) (.int .i64 r.a.to) (.int .i64 r.th) (.bool r.sc)
  rw [← hW9] at hbk hgr
  unfold set7 at hW9
  rw [← hW9]
  obtain ⟨d0, d1, d2, d3, d4, d5, d6⟩ := seven_at hbk
  clear z0 z1 z2 z3 z4 z5 z6 zf
  (try simp only [Exit.inBlock, Exit.then]); refine bodyPost_ret (by simp [results, Try.results32, go_sem, d0, d1, d2, d3, d4, d5, d6]; try rfl) rfl ?_
  have hl5 := HMN.out.1.lt
  have hl0 := HH.out.lt
  refine ⟨by unfold Td.val; rw [HOK.out.1], HMN.out.1.keep hgr.size (hgr.block p hl5.1 (by simp; omega)) (hgr.block t hl5.2.1 (by simp; omega)) (hgr.block g hl5.2.2.1 (by simp; omega)) (hgr.block b hl5.2.2.2 (by simp; omega)), ?_⟩
  have hG := (Gt.of_below (g := g) (b := b) HP3.out.1).trans HMN.out.2
  exact ⟨hgr.os.trans hG.os, hgr.tape.trans hG.tape, hgr.output.trans hG.output, Nat.le_trans hG.size hgr.size, fun q h1 h2 h3 => (hgr.block q (Nat.lt_of_lt_of_le h1 hG.size) (by simp; omega)).trans (hG.block q h1 h2 h3)⟩
theorem mswept_any (h : Mn w B p t g b n M s) (k : Int) :
    Calls Try.prog 32 #[.pointer (some ⟨p, 0, none⟩), .int .i64 k] w fun e w' => e = .returned (.tuple #[(s.swept k).1.val, .int .i64 (s.swept k).2.1]) ∧ Mn w' B p t g b n M (s.swept k).2.2 ∧ Gt w w' g b := by
  by_cases hk : k < 0 ∨ s.es.length ≤ k
  · have e : s.swept k = (Td.zero, 10, s) := by unfold Ms.swept; rw [if_pos hk]
    rw [e]
    exact (mswept_no h k hk).mono fun e w' ⟨he, hb⟩ => ⟨he, h.ext hb, Gt.of_below hb⟩
  have hk2 : 0 ≤ k ∧ k < s.es.length := by omega
  by_cases hph : (ruO (s.F k)).ph = 2
  · have e : s.swept k = (⟨(ruO (s.F k)).a, (ruO (s.F k)).th, (ruO (s.F k)).sc⟩, 0, ⟨s.es.set k.toNat ((ruO (s.F k)).th, false), updI s.F k none⟩) := by unfold Ms.swept; rw [if_neg hk, if_neg (by omega)]
    rw [e]
    exact mswept_ok h k hk2 hph
  · have e : s.swept k = (Td.zero, 16, s) := by unfold Ms.swept; rw [if_neg hk, if_pos hph]
    rw [e]
    exact (mswept_ph h k hk2 hph).mono fun e w' ⟨he, hb⟩ => ⟨he, h.ext hb, Gt.of_below hb⟩
end

end Go.Proofs.Ytjggnhcdnfmmeaa
