/- What this text holds: what is wrong with a note. Condition: the tables of kinds and of limits hold what their initialisers lay. -/
import Derived.Test.YtkfnjpmigifomaaDoorKnc
import Derived.Test.YtkfnjpmigifomaaDoorFbA
import Derived.Test.YtkfnjpmigifomaaDoorRrv
namespace Go.Proofs.YtkfnjpmigifomaaDoor
open Go.RowKit Go.Shelf
attribute [local go_sem] Oper.semAt_some

/-- What the fields say, filled in. -/
def hasF (x : Nt) (fs : List Int) : Nt := fs.foldl (fun h f => setF h f (getF x f)) ⟨x.k, 0, 0, 0, 0, 0, 0, false, 0⟩
theorem hasF_snoc (x : Nt) (fs : List Int) (f : Int) : hasF x (fs ++ [f]) = setF (hasF x fs) f (getF x f) := by simp [hasF]
def allF (c : Cfg) (x : Nt) (fs : List Int) : Bool := fs.all fun f => mayF c f (getF x f)
/-- What is wrong with a note. -/
def chkN (c : Cfg) (x : Nt) : Int := if kindB x.k then (if allF c x (fieldsT x.k.toNat) && decide (hasF x (fieldsT x.k.toNat) = x) then 0 else 10) else 15
/-- Check's boxes. -/
structure Ck3 (w W : World) (b : Nat) (c : Cfg) (x : Nt) (g : Bool) (h : Nt) : Prop where
  be : Below w.heap.size w W
  cf : W.heap[w.heap.size]? = some (.cells #[.int .i64 c.co, .int .i64 c.gr, .int .i64 c.se, .int .i64 c.wa, .int .i64 c.de, .int .i64 c.en, .int .i64 c.ba] 23 (0, 0))
  nt : BxN W (w.heap.size + 1) x
  gd : W.heap[b]? = some (.cells #[.bool g] 4 (0, 0))
  hs : BxN W (b + 1) h
  lo : w.heap.size + 1 < b
section
variable {w W W' : World} {b : Nat} {c : Cfg} {x h : Nt} {g : Bool}
theorem Ck3.grow {row : Option Nat} {B : Nat} (k : Ck3 w W b c x g h) (hg : W.grownBy W' row) (hB : b + 1 < B) (hr : ∀ j, row = some j → B ≤ j) : Ck3 w W' b c x g h := by
  have h1 := k.hs.lt
  have h2 := k.lo
  have hk : ∀ q, q ≤ b + 1 → W'.heap[q]? = W.heap[q]? := fun q hq => hg.block q (by omega) (fun e => by have := hr q e.symm; omega)
  exact ⟨k.be.grown hg k.be.size (fun j e => by have := hr j e; omega), (hk _ (by omega)).trans k.cf, (hk _ (by omega)).trans k.nt, (hk _ (by omega)).trans k.gd, (hk _ (by omega)).trans k.hs, h2⟩
theorem Ck3.ext (k : Ck3 w W b c x g h) (hb : Below W.heap.size W W') : Ck3 w W' b c x g h := by
  have h1 := k.hs.lt
  have h2 := k.lo
  have hk : ∀ q, q ≤ b + 1 → W'.heap[q]? = W.heap[q]? := fun q hq => hb.block q (by omega)
  exact ⟨ext_trans k.be hb, (hk _ (by omega)).trans k.cf, (hk _ (by omega)).trans k.nt, (hk _ (by omega)).trans k.gd, (hk _ (by omega)).trans k.hs, h2⟩
theorem Ck3.stop (k : Ck3 w W b c x g h) : Ck3 w (W.setCell ⟨b, 0, none⟩ (.bool false)) b c x false h := by
  have h2 := k.lo
  exact ⟨k.be.setCell (p := ⟨b, 0, none⟩) (by simp; omega) _, (Below.heap_setCell _ _ _ _ (by simp; omega)).trans k.cf, (Below.heap_setCell _ _ _ _ (by simp; omega)).trans k.nt, set_of k.gd, (Below.heap_setCell _ _ _ _ (by simp)).trans k.hs, h2⟩
theorem Ck3.put (k : Ck3 w W b c x g h) {j : Nat} {u : Value} {h' : Nt} (hu : BxN (W.setCell ⟨b + 1, j, none⟩ u) (b + 1) h') : Ck3 w (W.setCell ⟨b + 1, j, none⟩ u) b c x g h' := by
  have h2 := k.lo
  exact ⟨k.be.setCell (p := ⟨b + 1, j, none⟩) (by simp; omega) _, (Below.heap_setCell _ _ _ _ (by simp; omega)).trans k.cf, (Below.heap_setCell _ _ _ _ (by simp; omega)).trans k.nt, (Below.heap_setCell _ _ _ _ (by simp)).trans k.gd, hu, h2⟩
theorem Ck3.own {β : Type} {B : Nat} {f : β → Bool} {e : β → Nt} (hB : b + 1 < B) : OwnFrom B (fun (s : β) W => Ck3 w W b c x (f s) (e s)) := fun _ _ _ _ hs hg hr => hs.grow hg hB (fun j e => (hr j e).1)
end
theorem allF_pre {c : Cfg} {x : Nt} {pre fs : List Int} (h : pre <+: fs) (ha : allF c x pre = false) : allF c x fs = false := by
  obtain ⟨t, rfl⟩ := h
  unfold allF at *
  rw [List.all_append, ha]
  rfl
theorem nfields_any (k : Int) (w : World) : Calls Tryd.prog 95 #[.int .i64 k] w fun e w' => e = .returned (.func (.func 103) #[] #[.pointer (some ⟨w.heap.size, 0, none⟩)]) ∧ w' = w.alloc (.cells #[.int .i64 k] 3) := by
  go_enter Tryd.func95, Tryd.ntmps95
  go_wp2
  go_ret
  exact ⟨rfl, rfl⟩
set_option maxRecDepth 100000 in
set_option maxHeartbeats 4000000 in
theorem ncheck_no (c : Cfg) (x : Nt) (hk : kindB x.k = false) (w : World) : Calls Tryd.prog 73 #[.agg #[.int .i64 c.co, .int .i64 c.gr, .int .i64 c.se, .int .i64 c.wa, .int .i64 c.de, .int .i64 c.en, .int .i64 c.ba], x.val] w fun e w' => e = .returned (.int .i64 15) ∧ Below w.heap.size w w' := by
  have HI := Lib.hid (fun (W : World) => show Calls Tryd.prog 94 #[.int .i64 x.k] W (fun e w' => e = .returned (.bool false) ∧ w' = W) by have := nis_any x.k W; rw [hk] at this; exact this)
  clear hk
  obtain ⟨xk, xc, xl, xw, xs, xa, xb, xd, xn⟩ := x
  unfold Nt.val
  dsimp only at *
  go_enter Tryd.func73, Tryd.ntmps73
  go_wp2_with fail
  go_step3
  go_wp2_with fail
  refine (HI.out _).mono ?_
  rintro e w1 ⟨rfl, hw⟩
  subst hw
  go_wp2_with fail
  rw [Exit.noGoto_ret]
  go_ret
  exact ⟨rfl, (by repeat (with_reducible first | exact Below.refl _ _ | assumption | (refine ext_next (by assumption) ?_) | apply ext_alloc | apply ext_past | apply ext_drew | apply ext_drewN))⟩
set_option maxRecDepth 100000 in
set_option maxHeartbeats 4000000 in
theorem ncheck_yes (c : Cfg) (hok : c.ok) (x : Nt) (hk : kindB x.k = true) (w : World) (hL : Lims w) (hK : Kinds w) : Calls Tryd.prog 73 #[.agg #[.int .i64 c.co, .int .i64 c.gr, .int .i64 c.se, .int .i64 c.wa, .int .i64 c.de, .int .i64 c.en, .int .i64 c.ba], x.val] w fun e w' => e = .returned (.int .i64 (chkN c x)) ∧ Below w.heap.size w w' := by
  have HI := Lib.hid (fun (W : World) => show Calls Tryd.prog 94 #[.int .i64 x.k] W (fun e w' => e = .returned (.bool true) ∧ w' = W) by have := nis_any x.k W; rw [hk] at this; exact this)
  have HL := Lib.hid hL
  have HK := Lib.hid hK
  have HKB := Lib.hid hk
  have HOK := Lib.hid hok
  have HCK := Lib.hid (fun (W : World) (hb : Below w.heap.size w W) => show Calls Tryd.prog 58 #[.agg #[.int .i64 c.co, .int .i64 c.gr, .int .i64 c.se, .int .i64 c.wa, .int .i64 c.de, .int .i64 c.en, .int .i64 c.ba]] W (fun e w' => e = .returned (.int .i64 0) ∧ Below W.heap.size W w') by have := check_any c W (HL.out.ext hb); rw [chk_ok hok] at this; exact this)
  clear hk hL hK hok
  obtain ⟨xk, xc, xl, xw, xs, xa, xb, xd, xn⟩ := x
  obtain ⟨x, hx⟩ : ∃ x : Nt, x = ⟨xk, xc, xl, xw, xs, xa, xb, xd, xn⟩ := ⟨_, rfl⟩
  have HX := Lib.hid hx
  clear hx
  unfold Nt.val
  dsimp only at *
  refine (callsIn_wide (n := 6)).1 ?_
  have hro : Fence.wide.round = none := rfl
  refine callsIn_of_wp_marks Tryd.func73 rfl trivial ?_ hro
  simp only [Tryd.ntmps73, List.size_toArray, List.length_cons, List.length_nil, Nat.reduceAdd, Nat.reduceSub, Array.replicate_succ, Array.replicate_zero, List.push_toArray, List.append_toArray, List.nil_append, List.cons_append]
  gi_wp2_with fail
  refine wpIn_scope_w ?_
  gi_wp2_with fail
  refine ⟨trivial, (callsIn_wide.2 (HI.out _)).mono ?_⟩
  rintro e w1 ⟨rfl, hw⟩
  subst hw
  gi_wp2_with fail
  refine ⟨trivial, (callsIn_wide.2 (HCK.out _ (by repeat (with_reducible first | exact Below.refl _ _ | assumption | (refine ext_next (by assumption) ?_) | apply ext_alloc | apply ext_past | apply ext_drew | apply ext_drewN)))).mono ?_⟩
  rintro e w2 ⟨rfl, hb⟩
  have hcb : w2.heap[w.heap.size]? = some (.cells #[.int .i64 c.co, .int .i64 c.gr, .int .i64 c.se, .int .i64 c.wa, .int .i64 c.de, .int .i64 c.en, .int .i64 c.ba] 23 (0, 0)) := (hb.block _ (by simp; omega)).trans (alOld (alNew rfl))
  have hnb : BxN w2 (w.heap.size + 1) ⟨xk, xc, xl, xw, xs, xa, xb, xd, xn⟩ := (hb.block _ (by simp)).trans (alNew (by simp))
  obtain ⟨z0, z1, z2, z3, z4, z5, z6, z7, z8⟩ := hnb.cell
  have zl := hnb.lt
  dsimp only at z0 z1 z2 z3 z4 z5 z6 z7 z8
  have HB := Lib.hid hb
  clear hb
  gi_wp2_with fail
  refine wpIn_label ?_
  obtain ⟨W3, hW3⟩ : ∃ W3, W3 = (w2.alloc (.cells #[.bool true] 4)).alloc (.cells #[.int .i64 xk, .int .i64 0, .int .i64 0, .int .i64 0, .int .i64 0, .int .i64 0, .int .i64 0, .bool false, .int .i64 0] 74) := ⟨_, rfl⟩
  rw [← hW3]
  have hb23 : Below w2.heap.size w2 W3 := by rw [hW3]; repeat (with_reducible first | exact Below.refl _ _ | assumption | (refine ext_next (by assumption) ?_) | apply ext_alloc | apply ext_past | apply ext_drew | apply ext_drewN)
  have hgd : W3.heap[w2.heap.size]? = some (.cells #[.bool true] 4 (0, 0)) := by rw [hW3]; exact alOld (alNew rfl)
  have hhs : BxN W3 (w2.heap.size + 1) ⟨xk, 0, 0, 0, 0, 0, 0, false, 0⟩ := by rw [hW3]; exact alNew (by simp)
  have hsz3 : W3.heap.size = w2.heap.size + 2 := by rw [hW3]; simp
  have hn3 : BxN W3 (w.heap.size + 1) ⟨xk, xc, xl, xw, xs, xa, xb, xd, xn⟩ := (hb23.block _ zl).trans hnb
  have hc3 := (hb23.block _ (by omega)).trans hcb
  have HB3 : Hid (Below w.heap.size w W3) := Lib.hid (ext_trans (ext_trans (by repeat (with_reducible first | exact Below.refl _ _ | assumption | (refine ext_next (by assumption) ?_) | apply ext_alloc | apply ext_past | apply ext_drew | apply ext_drewN)) HB.out) hb23)
  clear hW3 hb23 z0 z1 z2 z3 z4 z5 z6 z7 z8 hcb hnb
  obtain ⟨z0, z1, z2, z3, z4, z5, z6, z7, z8⟩ := hn3.cell
  have zl3 := hn3.lt
  dsimp only at z0 z1 z2 z3 z4 z5 z6 z7 z8
  gi_wp2_with fail
  refine ⟨trivial, (callsIn_wide.2 (nfields_any _ _)).mono ?_⟩
  rintro e w3 ⟨rfl, hw⟩
  have HW3 := Lib.hid hw
  clear hw
  have hb33 : Below W3.heap.size W3 w3 := by rw [HW3.out]; exact ext_alloc _ (Below.refl _ _)
  have hfb : w3.heap[W3.heap.size]? = some (.cells #[.int .i64 xk] 3 (0, 0)) := by rw [HW3.out]; exact alNew rfl
  have hk3 : Ck3 w w3 w2.heap.size c x true (hasF x []) := by
    rw [HX.out]
    exact (Ck3.mk (c := c) (x := ⟨xk, xc, xl, xw, xs, xa, xb, xd, xn⟩) HB3.out hc3 hn3 hgd hhs zl).ext hb33
  obtain ⟨k, hk⟩ : ∃ k : Nat, xk = k := ⟨xk.toNat, by have := HKB.out; simp [kindB] at this; omega⟩
  have hk14 : k < 14 := by have := HKB.out; simp [kindB] at this; omega
  have hsz9 : w3.heap.size = W3.heap.size + 1 := by rw [HW3.out]; simp
  have HK3 := Lib.hid (HK.out.ext (ext_trans HB3.out hb33))
  rw [hk] at hfb
  rw [hsz3] at hfb
  clear z0 z1 z2 z3 z4 z5 z6 z7 z8 hc3 hn3 hgd hhs hb33
  gi_wp2_with fail
  refine wpIn_rangeFunc_runsV [(7, 0)] hro (by omega) (gf := 103) (lb := #[.pointer (some ⟨w2.heap.size + 2, 0, none⟩)]) rfl trivial (enters_of Tryd.func103 (by kernel_rfl) rfl)
    (fields_runs (6 - 1) (by omega) _ k hk14 w3 HK3.out hfb) (fun _ _ => trivial) (fun _ => trivial) (fun _ _ _ _ _ _ _ _ => trivial) (Below.refl _ _) (fun _ => rfl)
    (fun pre X => Ck3 w X w2.heap.size c x true (hasF x pre) ∧ allF c x pre = true)
    (fun cc pre X => (∃ e, Ck3 w X w2.heap.size c x false e) ∧ (cc = .exit 0 ∧ pre <+: fieldsT k ∧ allF c x pre = false))
    (OwnFrom.and (Ck3.own (by omega)) (ownFrom_pure _ (fun pre => allF c x pre = true)))
    (fun cc => OwnFrom.and (fun s A C row hs hg hr => by
      obtain ⟨e, he⟩ := hs
      exact ⟨e, he.grow hg (B := w3.heap.size) (by omega) (fun j e => (hr j e).1)⟩) (ownFrom_pure _ (fun pre => _)))
    ⟨hk3, rfl⟩ ?assign ?body ?done ?stop
  case assign =>
    rintro l2 y X K hK
    unfold varFrame at hK
    simp at hK
    gi_wp2
    exact hK
  case body =>
    rintro l2 pre y X hl2 hr ⟨hck, hall⟩ hok
    obtain ⟨hy1, hy2⟩ : 1 ≤ y ∧ y ≤ 13 := (fields_bd k).2 y (by obtain ⟨t, ht⟩ := hok; rw [← ht]; simp)
    obtain ⟨v, hv⟩ : ∃ v, v = getF x y := ⟨_, rfl⟩
    have HG := Lib.hid (fun (W : World) => nget_any x y hy1 hy2 W)
    have HM := Lib.hid (fun (W : World) (hb : Below w.heap.size w W) => nmay_any c HOK.out y v hy1 hy2 W (HL.out.ext hb))
    have HS := Lib.hid (fun (W : World) (h : BxN W (w2.heap.size + 1) (hasF x pre)) => nset_any (w2.heap.size + 1) (hasF x pre) y v hy1 hy2 W h)
    have HSN : Hid (hasF x (pre ++ [y]) = setF (hasF x pre) y v) := Lib.hid (by rw [hasF_snoc, hv])
    have HAS : Hid (allF c x (pre ++ [y]) = mayF c y v) := Lib.hid (by unfold allF at hall ⊢; rw [List.all_append, hall, hv]; simp)
    have HOK2 := Lib.hid ((List.prefix_append (pre ++ [y]) []).trans (by simpa using hok))
    rw [← hv] at HG
    unfold Nt.val at HG
    have HCK3 := Lib.hid hck
    obtain ⟨z0, z1, z2, z3, z4, z5, z6, z7, z8⟩ := hck.nt.cell
    have zl9 := hck.nt.lt
    have hlo := hck.lo
    have hhl := hck.hs.lt
    clear hv hok hall hck hy1 hy2 hr
    unfold varFrame
    gi_wp2_with fail
    refine ⟨trivial, (CallsIn.inRound l2 (callsIn_wide.2 (HG.out _))).mono ?_⟩
    rintro e X1 ⟨rfl, hb1⟩
    have HC1 := Lib.hid (HCK3.out.ext hb1)
    have HB1 := Lib.hid hb1
    have c0 := HC1.out.cf
    have cl : w.heap.size < X1.heap.size := lt_of c0
    have cc0 : X1.cell? ⟨w.heap.size, 0, none⟩ = some (.int .i64 c.co) := by simp [World.cell?, c0]
    have cc1 : X1.cell? ⟨w.heap.size, 1, none⟩ = some (.int .i64 c.gr) := by simp [World.cell?, c0]
    have cc2 : X1.cell? ⟨w.heap.size, 2, none⟩ = some (.int .i64 c.se) := by simp [World.cell?, c0]
    have cc3 : X1.cell? ⟨w.heap.size, 3, none⟩ = some (.int .i64 c.wa) := by simp [World.cell?, c0]
    have cc4 : X1.cell? ⟨w.heap.size, 4, none⟩ = some (.int .i64 c.de) := by simp [World.cell?, c0]
    have cc5 : X1.cell? ⟨w.heap.size, 5, none⟩ = some (.int .i64 c.en) := by simp [World.cell?, c0]
    have cc6 : X1.cell? ⟨w.heap.size, 6, none⟩ = some (.int .i64 c.ba) := by simp [World.cell?, c0]
    clear c0 hb1 z0 z1 z2 z3 z4 z5 z6 z7 z8 zl9
    cases hm : mayF c y v with
    | false =>
      have HM1 := HM.out X1 HC1.out.be
      rw [hm] at HM1
      have HM2 := Lib.hid HM1
      rw [hm] at HAS
      clear hm HM1
      gi_wp2_with fail
      refine ⟨trivial, (CallsIn.inRound l2 (callsIn_wide.2 HM2.out)).mono ?_⟩
      rintro e X2 ⟨rfl, hb2⟩
      have HC2 := Lib.hid (HC1.out.ext hb2)
      have HB2 := Lib.hid hb2
      have g0 := cell_of HC2.out.gd
      have gf := free_of HC2.out.gd
      have gl := lt_of HC2.out.gd
      clear hb2
      gi_wp2_with fail
      exact ⟨(KA.of_below HB1.out).trans ((KA.of_below HB2.out).trans (KA.setCell _ _ _ (by simp; omega))), ⟨_, HC2.out.stop⟩, rfl, HOK2.out, HAS.out⟩
    | true =>
      have HM1 := HM.out X1 HC1.out.be
      rw [hm] at HM1
      have HM2 := Lib.hid HM1
      rw [hm] at HAS
      clear hm HM1
      gi_wp2_with fail
      refine ⟨trivial, (CallsIn.inRound l2 (callsIn_wide.2 HM2.out)).mono ?_⟩
      rintro e X2 ⟨rfl, hb2⟩
      have HC2 := Lib.hid (HC1.out.ext hb2)
      have HB2 := Lib.hid hb2
      clear hb2
      gi_wp2_with fail
      refine ⟨trivial, (CallsIn.inRound l2 (callsIn_wide.2 (HS.out _ HC2.out.hs))).mono ?_⟩
      rintro e X3 ⟨⟨r, rfl⟩, hbx, j, u, hu⟩
      have HX3 := Lib.hid (And.intro hbx hu)
      clear hbx hu
      gi_wp2_with fail
      have h9 := HX3.out.1
      rw [HX3.out.2] at h9 ⊢
      exact ⟨(KA.of_below HB1.out).trans ((KA.of_below HB2.out).trans (KA.setCell _ _ _ (by simp; omega))), trivial, by rw [HSN.out]; exact HC2.out.put h9, HAS.out⟩
  case done =>
    rintro D ys Y hD rfl ⟨hck, hall⟩ hK
    obtain ⟨e, he⟩ : ∃ e, e = hasF x (fieldsT k) := ⟨_, rfl⟩
    rw [← he] at hck
    have HCV : Hid (chkN c x = if e = x then 0 else 10) := Lib.hid (by
      unfold chkN
      rw [show kindB x.k = true by rw [HX.out]; exact HKB.out, show x.k.toNat = k by rw [HX.out]; dsimp only; omega, hall, ← he]
      by_cases h9 : e = x <;> simp [h9])
    have g0 := cell_of hck.gd
    have gl := lt_of hck.gd
    obtain ⟨z0, z1, z2, z3, z4, z5, z6, z7, z8⟩ := hck.nt.cell
    have zl9 := hck.nt.lt
    obtain ⟨y0, y1, y2, y3, y4, y5, y6, y7, y8⟩ := hck.hs.cell
    have yl9 := hck.hs.lt
    have HBE := Lib.hid hck.be
    have hql := hck.lo
    clear hck he hall
    by_cases hex : e = x
    · have hq : ∀ wx, (binOp .neq 74 e.out x.out).run Tryd.prog wx = .ok (.bool false) wx := fun wx => by rw [neqN]; simp [hex]
      have HCV2 : Hid (chkN c x = 0) := Lib.hid (by rw [HCV.out, if_pos hex])
      clear hex
      gi_wp2_with fail
      rw [Exit.noGoto_ret]
      refine ⟨by simp, .inl ⟨_, _, rfl, run_takeDeferred hK, ?_⟩⟩
      refine ⟨.int .i64 0, ?_, by rw [← HX.out, HCV2.out], HBE.out.trans (belowK_b (w := w) (Nat.le_refl _) _ D _ _ (by omega) hK rfl rfl)⟩
      simp [results, Tryd.f73, go_sem]
    · have hq : ∀ wx, (binOp .neq 74 e.out x.out).run Tryd.prog wx = .ok (.bool true) wx := fun wx => by rw [neqN]; simp [hex]
      have HCV2 : Hid (chkN c x = 10) := Lib.hid (by rw [HCV.out, if_neg hex])
      clear hex
      gi_wp2_with fail
      rw [Exit.noGoto_ret]
      refine ⟨by simp, .inl ⟨_, _, rfl, run_takeDeferred hK, ?_⟩⟩
      refine ⟨.int .i64 10, ?_, by rw [← HX.out, HCV2.out], HBE.out.trans (belowK_b (w := w) (Nat.le_refl _) _ D _ _ (by omega) hK rfl rfl)⟩
      simp [results, Tryd.f73, go_sem]
  case stop =>
    rintro D cc pre Y hD _ ⟨⟨e, hck⟩, rfl, hpre, hall⟩ hK
    have HCV2 : Hid (chkN c x = 10) := Lib.hid (by
      unfold chkN
      rw [show kindB x.k = true by rw [HX.out]; exact HKB.out, show x.k.toNat = k by rw [HX.out]; dsimp only; omega, allF_pre hpre hall]
      simp)
    have g0 := cell_of hck.gd
    have gl := lt_of hck.gd
    have HBE := Lib.hid hck.be
    clear hck hall hpre
    gi_wp2_with fail
    rw [Exit.noGoto_ret]
    refine ⟨by simp, .inl ⟨_, _, rfl, run_takeDeferred hK, ?_⟩⟩
    refine ⟨.int .i64 10, ?_, by rw [← HX.out, HCV2.out], HBE.out.trans (belowK_b (w := w) (Nat.le_refl _) _ D _ _ (by omega) hK rfl rfl)⟩
    simp [results, Tryd.f73, go_sem]

/-- What is wrong with a note. -/
theorem ncheck_any (c : Cfg) (hok : c.ok) (x : Nt) (w : World) (hL : Lims w) (hK : Kinds w) : Calls Tryd.prog 73 #[.agg #[.int .i64 c.co, .int .i64 c.gr, .int .i64 c.se, .int .i64 c.wa, .int .i64 c.de, .int .i64 c.en, .int .i64 c.ba], x.val] w fun e w' => e = .returned (.int .i64 (chkN c x)) ∧ Below w.heap.size w w' := by
  cases hk : kindB x.k with
  | true => exact ncheck_yes c hok x hk w hL hK
  | false =>
    have h := ncheck_no c x hk w
    rw [show chkN c x = 15 by unfold chkN; rw [hk]; rfl]
    exact h

end Go.Proofs.YtkfnjpmigifomaaDoor
