/- What this text holds: a new core; its next instruction; the event of one. Condition: the table of ops holds what its initialiser lays. -/
import Derived.Test.YtkobeajbiendlaaDoorCore
import Derived.Deep.CutRange
namespace Go.Proofs.YtkobeajbiendlaaDoor
open Go.RowKit

/-- Why there is no core. -/
def newE (no wo : Int) (l : List Ins) : Int := if no < 0 ∨ 4 ≤ no ∨ wo < 0 ∨ 3 < wo then 10 else (chkP l).2

theorem knew_no (no wo : Int) (A : Option Addr) (l : List Ins) (cap : Nat) (w : World) (h : SlN w A l) (hO : Ops w) (he : newE no wo l ≠ 0) : Calls Tryd.prog 15 #[.int .i64 no, .int .i64 wo, .slice A l.length cap] w fun e w' => e = .returned (.tuple #[.pointer none, .int .i64 (newE no wo l)]) ∧ Below w.heap.size w w' := by
  have H := Lib.hid h
  have HO := Lib.hid hO
  have HE := Lib.hid he
  clear h hO he
  by_cases h1 : no < 0
  · have e1 : decide (no < 0) = true := by simpa using h1
    have HN : Hid (newE no wo l = 10) := Lib.hid (by unfold newE; rw [if_pos (.inl h1)])
    rw [HN.out]
    go_enter Tryd.func15, Tryd.ntmps15
    go_wp2_with fail
    go_ret2
    exact ⟨rfl, Below.refl _ _⟩
  have e1 : decide (no < 0) = false := by simpa using h1
  by_cases h2 : 4 ≤ no
  · have e2 : decide (no ≥ 4) = true := by simpa using h2
    have HN : Hid (newE no wo l = 10) := Lib.hid (by unfold newE; rw [if_pos (.inr (.inl h2))])
    rw [HN.out]
    go_enter Tryd.func15, Tryd.ntmps15
    go_wp2_with fail
    go_ret2
    exact ⟨rfl, Below.refl _ _⟩
  have e2 : decide (no ≥ 4) = false := by simp; omega
  by_cases h3 : wo < 0
  · have e3 : decide (wo < 0) = true := by simpa using h3
    have HN : Hid (newE no wo l = 10) := Lib.hid (by unfold newE; rw [if_pos (.inr (.inr (.inl h3)))])
    rw [HN.out]
    go_enter Tryd.func15, Tryd.ntmps15
    go_wp2_with fail
    go_ret2
    exact ⟨rfl, Below.refl _ _⟩
  have e3 : decide (wo < 0) = false := by simpa using h3
  by_cases h4 : 3 < wo
  · have e4 : decide (wo > 3) = true := by simpa using h4
    have HN : Hid (newE no wo l = 10) := Lib.hid (by unfold newE; rw [if_pos (.inr (.inr (.inr h4)))])
    rw [HN.out]
    go_enter Tryd.func15, Tryd.ntmps15
    go_wp2_with fail
    go_ret2
    exact ⟨rfl, Below.refl _ _⟩
  have e4 : decide (wo > 3) = false := by simp; omega
  have HN : Hid (newE no wo l = (chkP l).2) := Lib.hid (by unfold newE; rw [if_neg (by omega)])
  have e5 : ((chkP l).2 != 0) = true := by have := HE.out; rw [HN.out] at this; simpa using this
  rw [HN.out]
  have hch := icheck_any A l cap w H.out HO.out
  generalize chkP l = cp at hch e5 ⊢
  have HC := Lib.hid hch
  clear hch HE HN
  go_enter Tryd.func15, Tryd.ntmps15
  go_wp2_with fail
  refine HC.out.mono ?_
  rintro e w1 ⟨rfl, hb⟩
  have HB := Lib.hid hb
  clear hb
  go_wp2_with fail
  go_ret2
  exact ⟨rfl, HB.out⟩

theorem chk_len {l : List Ins} (h : (chkP l).2 = 0) : l.length ≤ 32 := by
  unfold chkP at h
  split at h
  · cases h
  · omega

set_option maxRecDepth 100000 in
theorem knew_ok (no wo : Int) (A : Option Addr) (l : List Ins) (cap : Nat) (w : World) (h : SlN w A l) (hA : A = none → l.length = 0 ∧ cap = 0) (hO : Ops w) (he : newE no wo l = 0) : Calls Tryd.prog 15 #[.int .i64 no, .int .i64 wo, .slice A l.length cap] w fun e w' =>
    ∃ q v, e = .returned (.tuple #[.pointer (some ⟨q, 0, none⟩), .int .i64 0]) ∧ Kc w' q v ⟨fun _ => 0, 0, wo, endB l 0, no, l⟩ ∧ w.heap.size ≤ q ∧ (∀ g, v.ownBlock = some g → w.heap.size ≤ g ∧ g < q) ∧ Below w.heap.size w w' := by
  have H := Lib.hid h
  have HO := Lib.hid hO
  have HA := Lib.hid hA
  have hr : 0 ≤ no ∧ no < 4 ∧ 0 ≤ wo ∧ wo ≤ 3 := by
    unfold newE at he
    split at he
    · cases he
    · omega
  have hc0 : (chkP l).2 = 0 := by
    unfold newE at he
    split at he
    · cases he
    · exact he
  have hlen := chk_len hc0
  obtain ⟨r1, r2, r3, r4⟩ := hr
  have e1 : decide (no < 0) = false := by simp; omega
  have e2 : decide (no ≥ 4) = false := by simp; omega
  have e3 : decide (wo < 0) = false := by simp; omega
  have e4 : decide (wo > 3) = false := by simp; omega
  have hch := icheck_any A l cap w h hO
  rw [hc0] at hch
  generalize (chkP l).1 = cp at hch
  have HC := Lib.hid hch
  clear hch h hO hA he hc0
  go_enter Tryd.func15, Tryd.ntmps15
  go_wp2_with fail
  refine HC.out.mono ?_
  rintro e w1 ⟨rfl, hb⟩
  have HB := Lib.hid hb
  clear hb
  go_wp2_with fail
  refine (iclone_any A l cap w1 (H.out.ext HB.out) HA.out (by omega)).mono ?_
  rintro e w2 ⟨v, rfl, hP, hv, hb⟩
  have HP := Lib.hid hP
  have HV := Lib.hid hv
  have HB2 := Lib.hid (ext_trans HB.out hb)
  have HB12 := Lib.hid hb
  obtain ⟨A', c', rfl, _, _⟩ := hP
  clear hv hb
  go_wp2_with fail
  obtain ⟨W3, hW3⟩ : ∃ W3, W3 = w2.alloc (.cells #[.int .i64 0, .int .i64 0, .int .i64 0, .int .i64 0, .int .i64 0, .int .i64 wo, .bool false, .int .i64 no, .slice A' l.length c'] 34) := ⟨_, rfl⟩
  have hbk : W3.heap[w2.heap.size]? = some (.cells #[.int .i64 0, .int .i64 0, .int .i64 0, .int .i64 0, .int .i64 0, .int .i64 wo, .bool false, .int .i64 no, .slice A' l.length c'] 34 (0, 0)) := by rw [hW3]; exact alNew rfl
  have hb3 : Below w2.heap.size w2 W3 := by rw [hW3]; exact ext_alloc _ (Below.refl _ _)
  rw [← hW3]
  have hK : Kc W3 w2.heap.size (.slice A' l.length c') ⟨fun _ => 0, 0, wo, false, no, l⟩ := ⟨hbk, HP.out.ext hb3, fun ad c n e => by
    obtain ⟨rfl, _, _⟩ := Value.slice.inj e
    have := (HV.out ad.block rfl).2
    omega⟩
  clear hbk hW3
  have HK := Lib.hid hK
  have HB3 := Lib.hid (ext_trans HB2.out hb3)
  clear hK hb3
  refine (turn_any w2.heap.size _ _ 0 W3 HK.out).mono ?_
  rintro e w4 ⟨⟨r, rfl⟩, hk4, hg4⟩
  have HK4 := Lib.hid hk4
  have HB4 := Lib.hid (show Below w.heap.size w w4 from HB3.out.grown hg4 HB3.out.size (fun k e => by cases e; exact HB2.out.size))
  clear hk4 hg4
  go_wp2_with fail
  go_ret2
  exact ⟨_, _, rfl, HK4.out, HB2.out.size, fun g hg => ⟨Nat.le_trans HB.out.size (HV.out g hg).1, (HV.out g hg).2⟩, HB4.out⟩

/-- The next instruction. -/
theorem knext_nil (w : World) : Calls Tryd.prog 20 #[.pointer none] w fun e w' => e = .returned (.tuple #[.agg #[.int .i64 0, .int .i64 0, .int .i64 0, .int .i64 0], .bool false]) ∧ Below w.heap.size w w' := by
  go_enter Tryd.func20, Tryd.ntmps20
  go_wp2
  (try simp only [Exit.inBlock, Exit.then]); refine bodyPost_ret (by simp [results, Tryd.results20, go_sem]; try rfl) rfl ?_
  exact ⟨rfl, (by repeat (with_reducible first | exact Below.refl _ _ | assumption | (refine ext_next (by assumption) ?_) | apply ext_alloc | apply ext_past | apply ext_drew | apply ext_drewN))⟩
theorem knext_end (p : Nat) (v : Value) (s : CoS) (w : World) (h : Kc w p v s) (he : endB s.ps s.a = true) : Calls Tryd.prog 20 #[.pointer (some ⟨p, 0, none⟩)] w fun e w' => e = .returned (.tuple #[.agg #[.int .i64 0, .int .i64 0, .int .i64 0, .int .i64 0], .bool false]) ∧ Below w.heap.size w w' := by
  have c4 := h.cells.2.2.2.2.1
  have hl := h.lt
  have H := Lib.hid h
  have HE := Lib.hid he
  clear h he
  go_enter Tryd.func20, Tryd.ntmps20
  go_wp2_with fail
  refine (ends_any p v s s.a _ (H.out.ext (ext_alloc _ (Below.refl _ _)))).mono ?_
  rintro e w1 ⟨rfl, hw⟩
  subst hw
  rw [HE.out]
  go_wp2_with fail
  (try simp only [Exit.inBlock, Exit.then]); refine bodyPost_ret (by simp [results, Tryd.results20, go_sem]; try rfl) rfl ?_
  exact ⟨rfl, (by repeat (with_reducible first | exact Below.refl _ _ | assumption | (refine ext_next (by assumption) ?_) | apply ext_alloc | apply ext_past | apply ext_drew | apply ext_drewN))⟩

theorem endB_no {l : List Ins} {a : Int} (h : endB l a = false) : ∃ k : Nat, a = k ∧ k < l.length ∧ (atI l k).op ≠ 11 := by
  simp [endB] at h
  obtain ⟨⟨h1, h2⟩, h3⟩ := h
  exact ⟨a.toNat, by omega, by omega, h3⟩

set_option maxRecDepth 100000 in
theorem knext_ok (p : Nat) (v : Value) (s : CoS) (w : World) (h : Kc w p v s) (he : endB s.ps s.a = false) : Calls Tryd.prog 20 #[.pointer (some ⟨p, 0, none⟩)] w fun e w' => e = .returned (.tuple #[.agg #[.int .i64 (atI s.ps s.a.toNat).op, .int .i64 (atI s.ps s.a.toNat).a, .int .i64 (atI s.ps s.a.toNat).b, .int .i64 (atI s.ps s.a.toNat).c], .bool true]) ∧ Below w.heap.size w w' := by
  have c4 := h.cells.2.2.2.2.1
  have c8 := h.cells.2.2.2.2.2.2.2.2
  have hl := h.lt
  have H := Lib.hid h
  have HE := Lib.hid he
  obtain ⟨k, hk, hkl, _⟩ := endB_no he
  obtain ⟨A, c, rfl, hS, _⟩ := h.pg
  obtain ⟨b, off, rfl, hb, hc⟩ := hS (by omega)
  obtain ⟨o0, o1, o2, o3⟩ := hc k hkl
  have e : s.a.toNat = k := by omega
  rw [e]
  rw [hk] at c4
  generalize atI s.ps k = x at o0 o1 o2 o3 ⊢
  have HKA := Lib.hid hk
  clear h he hS hc e hk
  go_enter Tryd.func20, Tryd.ntmps20
  go_wp2_with fail
  have hen := ends_any p (.slice (some ⟨b, off, none⟩) s.ps.length c) s s.a _ (H.out.ext (ext_alloc (.cells #[.int .i64 0, .int .i64 0, .int .i64 0, .int .i64 0] 36) (Below.refl _ w)))
  rw [HE.out, HKA.out] at hen
  refine hen.mono ?_
  clear hen
  rintro e w1 ⟨rfl, hw⟩
  subst hw
  go_wp2_with fail
  go_region
  all_goals
    go_wp2_with fail
    (try simp only [Exit.inBlock, Exit.then]); refine bodyPost_ret (by simp [results, Tryd.results20, go_sem]; try rfl) rfl ?_
    exact ⟨rfl, (by repeat (with_reducible first | exact Below.refl _ _ | assumption | (refine ext_next (by assumption) ?_) | apply ext_alloc | apply ext_past | apply ext_drew | apply ext_drewN))⟩

end Go.Proofs.YtkobeajbiendlaaDoor
