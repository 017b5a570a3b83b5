/- What this text holds: which programs there may be. Condition: the table of ops holds what its initialiser lays. -/
import Derived.Test.YtkobeajbiendlaaDoorIsa
namespace Go.Proofs.YtkobeajbiendlaaDoor
open Go.RowKit Go.Shelf
attribute [local go_sem] Oper.semAt_some

theorem wpIn_scope_wide {n : Nat} {P : Program} {c : Code} {Q : Exit → Act → World → Prop} {a : Act} {w : World} (h : c.wpIn Fence.wide n P (Exit.noGoto Q) a w) : (Code.scope c).wpIn Fence.wide n P Q a w :=
  wpIn_wide.2 (wp_scope_straight (wpIn_wide.1 h))

theorem numbers_any (x : Ins) (w : World) : Calls Tryd.prog 71 #[.agg #[.int .i64 x.op, .int .i64 x.a, .int .i64 x.b, .int .i64 x.c]] w fun e w' =>
    e = .returned (.func (.func 85) #[] #[.pointer (some ⟨w.heap.size, 0, none⟩)]) ∧ w' = w.alloc (.cells #[.int .i64 x.op, .int .i64 x.a, .int .i64 x.b, .int .i64 x.c] 36) := by
  go_enter Tryd.func71, Tryd.ntmps71
  go_wp2
  go_ret
  exact ⟨rfl, rfl⟩

set_option maxRecDepth 100000 in
set_option maxHeartbeats 4000000 in
theorem imay_any (x : Ins) (m : Int) (w : World) (hO : Ops w) : Calls Tryd.prog 47 #[.agg #[.int .i64 x.op, .int .i64 x.a, .int .i64 x.b, .int .i64 x.c], .int .i64 m] w fun e w' => e = .returned (.int .i64 (mayV x m)) ∧ Below w.heap.size w w' := by
  refine (callsIn_wide (n := 6)).1 ?_
  have hro : Fence.wide.round = none := rfl
  refine callsIn_of_wp_marks Tryd.func47 rfl trivial ?_ hro
  simp only [Tryd.ntmps47, List.size_toArray, List.length_cons, List.length_nil, Nat.reduceAdd, Nat.reduceSub, Array.replicate_succ, Array.replicate_zero, List.push_toArray, List.append_toArray, List.nil_append, List.cons_append]
  have HO := Lib.hid hO
  clear hO
  gi_wp2_with fail
  refine wpIn_scope_wide ?_
  gi_wp2_with fail
  refine ⟨trivial, (callsIn_wide.2 (isop_any x.op _)).mono ?_⟩
  rintro e w1 ⟨rfl, hw⟩
  subst hw
  cases hop : opB x.op
  · have HOP := Lib.hid hop
    clear hop
    gi_wp2_with fail
    rw [Exit.noGoto_ret]
    refine ⟨.int .i64 15, ?_, ret_int (by simp [mayV, HOP.out]), (by repeat (with_reducible first | exact Below.refl _ _ | assumption | (refine ext_next (by assumption) ?_) | apply ext_alloc | apply ext_past | apply ext_drew | apply ext_drewN))⟩
    simp [results, Tryd.f47, go_sem]
  · have HOP := Lib.hid hop
    clear hop
    gi_wp2_with fail
    refine wpIn_label ?_
    gi_wp2_with fail
    refine ⟨trivial, (callsIn_wide.2 (numbers_any x _)).mono ?_⟩
    rintro e w2 ⟨rfl, hw⟩
    subst hw
    gi_wp2_with fail
    obtain ⟨W0, hW0⟩ : ∃ W0, W0 = (((w.alloc (.cells #[.int .i64 x.op, .int .i64 x.a, .int .i64 x.b, .int .i64 x.c] 36)).alloc (.cells #[.int .i64 m] 3)).alloc (.cells #[.int .i64 0] 25)).alloc (.cells #[.int .i64 x.op, .int .i64 x.a, .int .i64 x.b, .int .i64 x.c] 36) := ⟨_, rfl⟩
    have hb0 : Below w.heap.size w W0 := by rw [hW0]; exact (by repeat (with_reducible first | exact Below.refl _ _ | assumption | (refine ext_next (by assumption) ?_) | apply ext_alloc | apply ext_past | apply ext_drew | apply ext_drewN))
    have hm0 : W0.heap[w.heap.size + 1]? = some (.cells #[.int .i64 m] 3 (0, 0)) := by rw [hW0]; exact alOld (alOld (alNew (by simp)))
    have he0 : W0.heap[w.heap.size + 1 + 1]? = some (.cells #[.int .i64 0] 25 (0, 0)) := by rw [hW0]; exact alOld (alNew (by simp))
    have hx0 : W0.heap[w.heap.size + 1 + 1 + 1]? = some (.cells #[.int .i64 x.op, .int .i64 x.a, .int .i64 x.b, .int .i64 x.c] 36 (0, 0)) := by rw [hW0]; exact alNew (by simp)
    have hs0 := lt_of hx0
    rw [← hW0]
    clear hW0
    refine wpIn_rangeFunc_var [(6, 0), (7, 1)] hro (by omega) (gf := 85) (lb := #[.pointer (some ⟨w.heap.size + 1 + 1 + 1, 0, none⟩)]) rfl trivial (enters_of Tryd.func85 (by kernel_rfl) rfl)
      (numbers_stops (6 - 1) (by omega) (w.heap.size + 1 + 1 + 1) x W0 (HO.out.ext hb0) hx0 HOP.out) (fun h k => h.trans k) (KeepN.refl _) (fun W l o o' hl ho hc hw => ?kp) (Below.refl _ _) (fun _ => rfl)
      (fun pre W => (W.heap[w.heap.size + 1]? = some (.cells #[.int .i64 m] 3 (0, 0)) ∧ W.heap[w.heap.size + 1 + 1]? = some (.cells #[.int .i64 0] 25 (0, 0)) ∧ pre.all (fun y => fitB y.1 y.2 m) = true) ∧ Below w.heap.size w W)
      (fun cc pre W => (cc = .exit 0 ∧ W.heap[w.heap.size + 1 + 1]? = some (.cells #[.int .i64 10] 25 (0, 0)) ∧ pre.all (fun y => fitB y.1 y.2 m) = false) ∧ Below w.heap.size w W)
      (OwnFrom.and (Own.from (fun s A B row hs hg hr => ⟨blk_held hs.1 hg hr, blk_held hs.2.1 hg hr, hs.2.2⟩) _) (ownFrom_below (Nat.le_refl _) (by omega)))
      (fun cc => OwnFrom.and (Own.from (fun s A B row hs hg hr => ⟨hs.1, blk_held hs.2.1 hg hr, hs.2.2⟩) _) (ownFrom_below (Nat.le_refl _) (by omega)))
      ⟨⟨hm0, he0, rfl⟩, hb0⟩ ?assign ?body ?done ?stop
    case kp => exact ⟨World.putObj_heap_other (by omega), World.putObj_heap_other (by have := HO.out.lt; omega)⟩
    case assign =>
      intro l y W K hK
      unfold varFrame at hK
      simp at hK
      gi_wp2
      exact hK
    case body =>
      rintro l pre y W hl hr ⟨⟨hm, he, hall⟩, hB⟩ hlen
      have HALL := Lib.hid hall
      have HM := Lib.hid hm
      have HE := Lib.hid he
      have km := cell_of hm
      have ke := cell_of he
      have kf := free_of he
      have kl := lt_of he
      have kl2 := lt_of hm
      clear hall hm he hr hlen hm0 he0 hx0 hl
      unfold varFrame
      gi_wp2_with fail
      refine ⟨trivial, (CallsIn.inRound l (callsIn_wide.2 (fits_any y.1 y.2 m _))).mono ?_⟩
      rintro e w3 ⟨rfl, hw⟩
      subst hw
      cases hf : fitB y.1 y.2 m
      · have HF := Lib.hid hf
        clear hf
        gi_wp2_with fail
        have hset := set_of (u := .int .i64 10) HE.out
        exact ⟨(KeepsOthers.setCell _ _ _).from _, ⟨rfl, hset, by simp [HF.out]⟩, hB.setCell (p := ⟨w.heap.size + 1 + 1, 0, none⟩) (by simp; omega) _⟩
      · have HF := Lib.hid hf
        clear hf
        gi_wp2_with fail
        exact ⟨(KeepsOthers.refl _).from _, KeepN.refl _ _, ⟨HM.out, HE.out, by simp [HALL.out, HF.out]⟩, hB⟩
    case done =>
      rintro D ys W hD rfl ⟨⟨hm, he, hall⟩, hB⟩ hK
      have HALL := Lib.hid hall
      have ke := cell_of he
      have kl := lt_of he
      clear hall hm he hm0 he0 hx0
      gi_wp2_with fail
      rw [Exit.noGoto_ret]
      refine ⟨by simp, .inl ⟨_, _, rfl, run_takeDeferred hK, ?_⟩⟩
      refine ⟨.int .i64 0, ?_, ret_int (by simp [mayV, HOP.out, HALL.out]), hB.trans (belowK_b (w := w) (Nat.le_refl _) _ D _ _ (by omega) hK rfl rfl)⟩
      simp [results, Tryd.f47, go_sem]
    case stop =>
      rintro D cc pre W hD hpre ⟨⟨rfl, he, hall⟩, hB⟩ hK
      have HALL : Hid ((numsI x).all (fun y => fitB y.1 y.2 m) = false) := Lib.hid (by
        obtain ⟨t, ht⟩ := hpre
        rw [← ht, List.all_append, hall]
        rfl)
      have ke := cell_of he
      have kl := lt_of he
      clear hall he hm0 he0 hx0 hpre
      gi_wp2_with fail
      rw [Exit.noGoto_ret]
      refine ⟨by simp, .inl ⟨_, _, rfl, run_takeDeferred hK, ?_⟩⟩
      refine ⟨.int .i64 10, ?_, ret_int (by simp [mayV, HOP.out, HALL.out]), hB.trans (belowK_b (w := w) (Nat.le_refl _) _ D _ _ (by omega) hK rfl rfl)⟩
      simp [results, Tryd.f47, go_sem]

/-- An instruction of a list. -/
def Ins.none : Ins := ⟨0, 0, 0, 0⟩
def atI (l : List Ins) (i : Nat) : Ins := l[i]?.getD Ins.none
/-- A list of instructions in memory. -/
def SlN (w : World) (A : Option Addr) (l : List Ins) : Prop :=
  0 < l.length → ∃ b off, A = some ⟨b, off, none⟩ ∧ b < w.heap.size ∧ ∀ i, i < l.length → w.cell? ⟨b, off + i * 4, none⟩ = some (.int .i64 (atI l i).op) ∧ w.cell? ⟨b, off + i * 4 + 1, none⟩ = some (.int .i64 (atI l i).a) ∧ w.cell? ⟨b, off + i * 4 + 2, none⟩ = some (.int .i64 (atI l i).b) ∧ w.cell? ⟨b, off + i * 4 + 3, none⟩ = some (.int .i64 (atI l i).c)
theorem SlN.ext {w w' : World} {A : Option Addr} {l : List Ins} (h : SlN w A l) (hb : Below w.heap.size w w') : SlN w' A l := fun h0 => by
  obtain ⟨b, off, hA, hl, hc⟩ := h h0
  exact ⟨b, off, hA, Nat.lt_of_lt_of_le hl hb.size, fun i hi => ⟨(hb.cell (p := ⟨b, off + i * 4, none⟩) hl).trans (hc i hi).1, (hb.cell (p := ⟨b, off + i * 4 + 1, none⟩) hl).trans (hc i hi).2.1, (hb.cell (p := ⟨b, off + i * 4 + 2, none⟩) hl).trans (hc i hi).2.2.1, (hb.cell (p := ⟨b, off + i * 4 + 3, none⟩) hl).trans (hc i hi).2.2.2⟩⟩

/-- What is wrong with the first instructions: the place behind the first bad one, and its error. -/
def chkV (l : List Ins) (m : Int) : Nat → Int × Int
  | 0 => (0, 0)
  | k + 1 => if (chkV l m k).2 = 0 then (if mayV (atI l k) m = 0 then (0, 0) else ((k : Int) + 1, mayV (atI l k) m)) else chkV l m k
/-- What is wrong with a program. -/
def chkP (l : List Ins) : Int × Int := if 32 < l.length then (0, 11) else chkV l l.length l.length
theorem chkV_zero {l : List Ins} {m : Int} : ∀ {k : Nat}, (chkV l m k).2 = 0 → chkV l m k = (0, 0)
  | 0, _ => rfl
  | k + 1, h => by
    unfold chkV at h ⊢
    split at h
    · rename_i h0
      rw [if_pos h0]
      split at h
      · rename_i h1
        rw [if_pos h1]
      · rename_i h1
        exact absurd h h1
    · rename_i h0
      exact absurd h h0
theorem chkV_bad {l : List Ins} {m : Int} {k : Nat} (h : (chkV l m k).2 ≠ 0) : ∀ n, k ≤ n → chkV l m n = chkV l m k
  | 0, h0 => by rw [Nat.le_zero.1 h0]
  | n + 1, h0 => by
    by_cases hk : k = n + 1
    · rw [hk]
    · have := chkV_bad h n (by omega)
      show (if (chkV l m n).2 = 0 then _ else chkV l m n) = _
      rw [this, if_neg h]

set_option maxRecDepth 100000 in
set_option maxHeartbeats 4000000 in
theorem icheck_any (A : Option Addr) (l : List Ins) (cap : Nat) (w : World) (h : SlN w A l) (hO : Ops w) : Calls Tryd.prog 16 #[.slice A l.length cap] w fun e w' => e = .returned (.tuple #[.int .i64 (chkP l).1, .int .i64 (chkP l).2]) ∧ Below w.heap.size w w' := by
  have H := Lib.hid h
  have HO := Lib.hid hO
  clear h hO
  by_cases h32 : 32 < l.length
  · have e1 : decide ((l.length : Int) > 32) = true := by simp; omega
    have HC : Hid (chkP l = (0, 11)) := Lib.hid (by unfold chkP; rw [if_pos h32])
    rw [HC.out]
    go_enter Tryd.func16, Tryd.ntmps16
    go_wp2_with fail
    go_ret2
    exact ⟨rfl, Below.refl _ _⟩
  · have e1 : decide ((l.length : Int) > 32) = false := by simp; omega
    have HC : Hid (chkP l = chkV l l.length l.length) := Lib.hid (by unfold chkP; rw [if_neg h32])
    rw [HC.out]
    go_enter Tryd.func16, Tryd.ntmps16
    go_wp2_with fail
    go_loopg [12] l.length (fun g s12 wr => ∃ k : Nat, k + g = l.length ∧ s12 = .int .i64 k ∧ Hid ((chkV l l.length k).2 = 0) ∧ Hid (Below w.heap.size w wr))
    case atStart => exact ⟨0, by omega, rfl, Lib.hid rfl, Below.refl _ _⟩
    case round =>
      obtain ⟨k, hk, rfl, HV, HB⟩ := hrel
      by_cases hlt : k < l.length
      · have ek : decide ((k : Int) < (l.length : Int)) = true := by simp; omega
        obtain ⟨b, off, rfl, hb, hc⟩ := H.out (by omega)
        have hcc := hc k hlt
        have eb := HB.out.block b hb
        have o0 := (World.cell?_of_block (a := ⟨b, off + k * 4, none⟩) eb).trans hcc.1
        have o1 := (World.cell?_of_block (a := ⟨b, off + k * 4 + 1, none⟩) eb).trans hcc.2.1
        have o2 := (World.cell?_of_block (a := ⟨b, off + k * 4 + 2, none⟩) eb).trans hcc.2.2.1
        have o3 := (World.cell?_of_block (a := ⟨b, off + k * 4 + 3, none⟩) eb).trans hcc.2.2.2
        have hbr : b < wr.heap.size := by have := HB.out.size; omega
        have HS : Hid ((chkV l l.length (k + 1)) = if mayV (atI l k) l.length = 0 then (0, 0) else ((k : Int) + 1, mayV (atI l k) l.length)) := Lib.hid (by
          show (if (chkV l l.length k).2 = 0 then _ else _) = _
          rw [if_pos HV.out])
        clear hc hcc eb
        generalize atI l k = x at o0 o1 o2 o3 HS
        go_wp2_with fail
        refine (imay_any x l.length _ ((HO.out.ext HB.out).ext (ext_alloc _ (Below.refl _ _)))).mono ?_
        rintro e w3 ⟨rfl, hb3⟩
        have HB3 := Lib.hid (HB.out.trans ((ext_next hb3 (ext_alloc _ (Below.refl _ _))).mono HB.out.size))
        clear hb3 o0 o1 o2 o3
        by_cases hm : mayV x l.length = 0
        · rw [hm]
          have HM := Lib.hid hm
          clear hm
          go_wp2_with fail
          go_roundg (l.length - (k + 1))
          case measure => omega
          case rel => exact ⟨k + 1, by omega, by go_num, Lib.hid (by rw [HS.out, if_pos HM.out]), HB3⟩
        · have em : (mayV x l.length != 0) = true := by simpa using hm
          have HR : Hid (chkV l l.length l.length = ((k : Int) + 1, mayV x l.length)) := Lib.hid (by
            have h1 : (chkV l l.length (k + 1)) = ((k : Int) + 1, mayV x l.length) := by rw [HS.out, if_neg hm]
            rw [chkV_bad (k := k + 1) (by rw [h1]; exact hm) l.length hlt, h1])
          clear hm
          generalize mayV x l.length = r at em HR ⊢
          go_wp2_with fail
          go_ret2
          exact ⟨by rw [HR.out]; rfl, HB3.out⟩
      · have ek : decide ((k : Int) < (l.length : Int)) = false := by simp; omega
        have hkl : k = l.length := by omega
        have HR : Hid (chkV l l.length l.length = (0, 0)) := Lib.hid (by rw [← hkl]; rw [← hkl] at HV; exact chkV_zero HV.out)
        clear hkl
        go_wp2_with fail
        go_ret2
        exact ⟨by rw [HR.out]; rfl, HB.out⟩

end Go.Proofs.YtkobeajbiendlaaDoor
