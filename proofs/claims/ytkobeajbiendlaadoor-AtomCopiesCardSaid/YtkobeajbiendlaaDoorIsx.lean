/- What this text holds: which instructions there may be. Condition: the table of ops holds what its initialiser lays. What this text holds: which programs there may be. Condition: the table of ops holds what its initialiser lays. -/
import Derived.Test.YtkobeajbiendlaaDoorBas
namespace Go.Proofs.YtkobeajbiendlaaDoor
open Go.RowKit Go.Shelf
attribute [local go_sem] Oper.semAt_some

/-- The table of ops, as its initialiser lays it. -/
def Ops (w : World) : Prop := ∃ t fr, w.heap[(0 : Nat)]? = some (.cells #[.string ⟨#[]⟩, .int .i64 0, .int .i64 0, .int .i64 0, .string ⟨#[115, 101, 116]⟩, .int .i64 1, .int .i64 2, .int .i64 0, .string ⟨#[97, 100, 100]⟩, .int .i64 1, .int .i64 1, .int .i64 1, .string ⟨#[108, 111, 97, 100]⟩, .int .i64 1, .int .i64 1, .int .i64 0, .string ⟨#[115, 116, 111, 114, 101]⟩, .int .i64 1, .int .i64 1, .int .i64 0, .string ⟨#[115, 119, 97, 112]⟩, .int .i64 1, .int .i64 1, .int .i64 0, .string ⟨#[102, 101, 110, 99, 101]⟩, .int .i64 0, .int .i64 0, .int .i64 0, .string ⟨#[119, 111, 114, 108, 100]⟩, .int .i64 3, .int .i64 0, .int .i64 0, .string ⟨#[99, 97, 108, 108]⟩, .int .i64 4, .int .i64 1, .int .i64 1, .string ⟨#[106, 117, 109, 112]⟩, .int .i64 5, .int .i64 0, .int .i64 0, .string ⟨#[122, 101, 114, 111]⟩, .int .i64 1, .int .i64 5, .int .i64 0, .string ⟨#[104, 97, 108, 116]⟩, .int .i64 0, .int .i64 0, .int .i64 0] t fr)
theorem Ops.lt {w : World} (h : Ops w) : 0 < w.heap.size := by obtain ⟨_, _, h⟩ := h; exact lt_of h
theorem Ops.block {w w' : World} (h : Ops w) (hb : w'.heap[(0 : Nat)]? = w.heap[(0 : Nat)]?) : Ops w' := by
  obtain ⟨t, fr, h⟩ := h; exact ⟨t, fr, hb.trans h⟩
theorem Ops.ext {w w' : World} (h : Ops w) (hb : Below w.heap.size w w') : Ops w' := h.block (hb.block _ h.lt)

/-- What the numbers of an op may be. -/
def numb (k j : Nat) : Int := (([[0, 0, 0], [1, 2, 0], [1, 1, 1], [1, 1, 0], [1, 1, 0], [1, 1, 0], [0, 0, 0], [3, 0, 0], [4, 1, 1], [5, 0, 0], [1, 5, 0], [0, 0, 0]] : List (List Int))[k]?.getD [])[j]?.getD 0
theorem Ops.num {w : World} (h : Ops w) (k j : Nat) (hk : k < 12) (hj : j < 3) : w.cell? ⟨0, k * 4 + 1 + j, none⟩ = some (.int .i64 (numb k j)) := by
  obtain ⟨t, fr, h⟩ := h
  unfold World.cell?
  rw [h]
  have h1 : k = 0 ∨ k = 1 ∨ k = 2 ∨ k = 3 ∨ k = 4 ∨ k = 5 ∨ k = 6 ∨ k = 7 ∨ k = 8 ∨ k = 9 ∨ k = 10 ∨ k = 11 := by omega
  have h2 : j = 0 ∨ j = 1 ∨ j = 2 := by omega
  rcases h1 with rfl | rfl | rfl | rfl | rfl | rfl | rfl | rfl | rfl | rfl | rfl | rfl <;> rcases h2 with rfl | rfl | rfl <;> rfl

/-- An instruction. -/
structure Ins where
  op : Int
  a : Int
  b : Int
  c : Int
def opB (k : Int) : Bool := decide (1 ≤ k) && decide (k < 12)
/-- Its numbers, each with what it may be. -/
def numsI (x : Ins) : List (Int × Int) := [(numb x.op.toNat 0, x.a), (numb x.op.toNat 1, x.b), (numb x.op.toNat 2, x.c)]
def fitB (t v m : Int) : Bool :=
  if t = 1 then decide (0 ≤ v) && decide (v < 4) else if t = 2 then true else if t = 3 then decide (1 ≤ v) && decide (v ≤ 3) else if t = 4 then decide (1 ≤ v) && decide (v ≤ 4) else if t = 5 then decide (0 ≤ v) && decide (v ≤ m) else v == 0
def mayV (x : Ins) (m : Int) : Int := if opB x.op then if (numsI x).all fun y => fitB y.1 y.2 m then 0 else 10 else 15

theorem isop_any (k : Int) (w : World) : Calls Tryd.prog 70 #[.int .i64 k] w fun e w' => e = .returned (.bool (opB k)) ∧ w' = w := by
  unfold opB
  by_cases h1 : 1 ≤ k
  · have e1 : decide (k ≥ 1) = true := by simpa using h1
    go_enter Tryd.func70, Tryd.ntmps70
    go_wp2_with fail
    go_ret
    exact ⟨ret_bool (by simp [h1]), rfl⟩
  · have e1 : decide (k ≥ 1) = false := by simp; omega
    go_enter Tryd.func70, Tryd.ntmps70
    go_wp2_with fail
    go_ret
    exact ⟨ret_bool (by simp), rfl⟩

theorem fits_any (t v m : Int) (w : World) : Calls Tryd.prog 72 #[.int .i64 t, .int .i64 v, .int .i64 m] w fun e w' => e = .returned (.bool (fitB t v m)) ∧ w' = w := by
  obtain ⟨r, hr⟩ : ∃ r, fitB t v m = r := ⟨_, rfl⟩
  have HR := Lib.hid hr
  rw [hr]
  clear hr
  by_cases h1 : t = 1
  · have e1 : (t == 1) = true := by simpa using h1
    by_cases h2 : 0 ≤ v
    · have e2 : decide (v ≥ 0) = true := by simpa using h2
      go_enter Tryd.func72, Tryd.ntmps72
      go_wp2_with fail
      go_ret
      exact ⟨ret_bool (by rw [← HR.out]; first | (simp [fitB, h1, h2]; done) | (simp [fitB, h1, h2]; omega)), rfl⟩
    · have e2 : decide (v ≥ 0) = false := by simp; omega
      go_enter Tryd.func72, Tryd.ntmps72
      go_wp2_with fail
      go_ret
      exact ⟨ret_bool (by rw [← HR.out]; first | (simp [fitB, h1]; done) | (simp [fitB, h1]; omega)), rfl⟩
  have e1 : (t == 1) = false := by simpa using h1
  by_cases h2 : t = 2
  · have e2 : (t == 2) = true := by simpa using h2
    go_enter Tryd.func72, Tryd.ntmps72
    go_wp2_with fail
    go_ret
    exact ⟨ret_bool (by rw [← HR.out]; first | (simp [fitB, h2]; done) | (simp [fitB, h2]; omega)), rfl⟩
  have e2 : (t == 2) = false := by simpa using h2
  by_cases h3 : t = 3
  · have e3 : (t == 3) = true := by simpa using h3
    by_cases h4 : 1 ≤ v
    · have e4 : decide (v ≥ 1) = true := by simpa using h4
      go_enter Tryd.func72, Tryd.ntmps72
      go_wp2_with fail
      go_ret
      exact ⟨ret_bool (by rw [← HR.out]; first | (simp [fitB, h3, h4]; done) | (simp [fitB, h3, h4]; omega)), rfl⟩
    · have e4 : decide (v ≥ 1) = false := by simp; omega
      go_enter Tryd.func72, Tryd.ntmps72
      go_wp2_with fail
      go_ret
      exact ⟨ret_bool (by rw [← HR.out]; first | (simp [fitB, h3]; done) | (simp [fitB, h3]; omega)), rfl⟩
  have e3 : (t == 3) = false := by simpa using h3
  by_cases h4 : t = 4
  · have e4 : (t == 4) = true := by simpa using h4
    by_cases h5 : 1 ≤ v
    · have e5 : decide (v ≥ 1) = true := by simpa using h5
      go_enter Tryd.func72, Tryd.ntmps72
      go_wp2_with fail
      go_ret
      exact ⟨ret_bool (by rw [← HR.out]; first | (simp [fitB, h4, h5]; done) | (simp [fitB, h4, h5]; omega)), rfl⟩
    · have e5 : decide (v ≥ 1) = false := by simp; omega
      go_enter Tryd.func72, Tryd.ntmps72
      go_wp2_with fail
      go_ret
      exact ⟨ret_bool (by rw [← HR.out]; first | (simp [fitB, h4]; done) | (simp [fitB, h4]; omega)), rfl⟩
  have e4 : (t == 4) = false := by simpa using h4
  by_cases h5 : t = 5
  · have e5 : (t == 5) = true := by simpa using h5
    by_cases h6 : 0 ≤ v
    · have e6 : decide (v ≥ 0) = true := by simpa using h6
      go_enter Tryd.func72, Tryd.ntmps72
      go_wp2_with fail
      go_ret
      exact ⟨ret_bool (by rw [← HR.out]; first | (simp [fitB, h5, h6]; done) | (simp [fitB, h5, h6]; omega)), rfl⟩
    · have e6 : decide (v ≥ 0) = false := by simp; omega
      go_enter Tryd.func72, Tryd.ntmps72
      go_wp2_with fail
      go_ret
      exact ⟨ret_bool (by rw [← HR.out]; first | (simp [fitB, h5]; done) | (simp [fitB, h5]; omega)), rfl⟩
  have e5 : (t == 5) = false := by simpa using h5
  go_enter Tryd.func72, Tryd.ntmps72
  go_wp2_with fail
  go_ret
  exact ⟨ret_bool (by rw [← HR.out]; first | (simp [fitB, h1, h2, h3, h4, h5]; done) | (simp [fitB, h1, h2, h3, h4, h5]; omega)), rfl⟩

/-- What a round keeps: the iterator's own cell, and the table. -/
def KeepN (b : Nat) (W W' : World) : Prop := W'.heap[b]? = W.heap[b]? ∧ W'.heap[(0 : Nat)]? = W.heap[(0 : Nat)]?
theorem KeepN.refl (b : Nat) (W : World) : KeepN b W W := ⟨rfl, rfl⟩
theorem KeepN.trans {b : Nat} {x y z : World} (h : KeepN b x y) (k : KeepN b y z) : KeepN b x z := ⟨k.1.trans h.1, k.2.trans h.2⟩
theorem ins_cells {W : World} {b : Nat} {x : Ins} {t : TypeId} {fr : Nat × Nat} (h : W.heap[b]? = some (.cells #[.int .i64 x.op, .int .i64 x.a, .int .i64 x.b, .int .i64 x.c] t fr)) :
    W.cell? ⟨b, 0, none⟩ = some (.int .i64 x.op) ∧ W.cell? ⟨b, 1, none⟩ = some (.int .i64 x.a) ∧ W.cell? ⟨b, 2, none⟩ = some (.int .i64 x.b) ∧ W.cell? ⟨b, 3, none⟩ = some (.int .i64 x.c) ∧ b < W.heap.size := by
  refine ⟨?_, ?_, ?_, ?_, lt_of h⟩ <;> simp [World.cell?, h]

theorem ix3_0 (a b c : Int) (w : World) : (Instr.index 128 (.agg #[.int .i64 a, .int .i64 b, .int .i64 c]) (.int .i64 0)).run Tryd.prog w = .ok (.int .i64 a) w := by kernel_rfl
theorem ix3_1 (a b c : Int) (w : World) : (Instr.index 128 (.agg #[.int .i64 a, .int .i64 b, .int .i64 c]) (.int .i64 1)).run Tryd.prog w = .ok (.int .i64 b) w := by kernel_rfl
theorem ix3_2 (a b c : Int) (w : World) : (Instr.index 128 (.agg #[.int .i64 a, .int .i64 b, .int .i64 c]) (.int .i64 2)).run Tryd.prog w = .ok (.int .i64 c) w := by kernel_rfl

set_option maxRecDepth 100000 in
set_option maxHeartbeats 2000000 in
theorem numbers_stops (n : Nat) (hn : 1 ≤ n) (b : Nat) (x : Ins) (w : World) (hO : Ops w) (hb : w.heap[b]? = some (.cells #[.int .i64 x.op, .int .i64 x.a, .int .i64 x.b, .int .i64 x.c] 36 (0, 0))) (hop : opB x.op = true) :
    SeqStopsK Fence.wide n Tryd.prog 85 #[.pointer (some ⟨b, 0, none⟩)] (fun y : Int × Int => #[Value.int .i64 y.1, Value.int .i64 y.2]) (KeepN b) (fun ys => ys = numsI x) (fun pre => pre <+: numsI x) 3 w := fun l J Jx W hW hJ _ hY h0 => by
  have hOW := hO.ext hW
  have hbW := (hW.block _ (lt_of hb)).trans hb
  obtain ⟨k, hk⟩ : ∃ k : Nat, x.op = k := by
    have h2 : 1 ≤ x.op ∧ x.op < 12 := by simpa [opB] using hop
    exact ⟨x.op.toNat, by omega⟩
  have hk12 : k < 12 ∧ 1 ≤ k := by
    have h2 : 1 ≤ x.op ∧ x.op < 12 := by simpa [opB] using hop
    omega
  have hN : numsI x = [(numb k 0, x.a), (numb k 1, x.b), (numb k 2, x.c)] := by simp [numsI, hk]
  obtain ⟨xo, xa, xb, xc⟩ := x
  dsimp only at *
  subst hk
  have HN := Lib.hid hN
  have HO := Lib.hid hOW
  have HBX := Lib.hid hbW
  obtain ⟨k12, k1⟩ := hk12
  clear hN hOW hO hop hW
  obtain ⟨q0, q1, q2, q3, ql⟩ := ins_cells (x := ⟨k, xa, xb, xc⟩) hbW
  dsimp only at q0 q1 q2 q3
  clear hbW hb
  refine callsIn_of_wp Tryd.func85 rfl trivial ?_ rfl
  simp only [Tryd.ntmps85, List.size_toArray, List.length_cons, List.length_nil, Nat.reduceAdd, Nat.reduceSub, Array.replicate_succ, Array.replicate_zero, List.push_toArray, List.append_toArray, List.nil_append, List.cons_append]
  gi_wp2_with fail
  clear q0 q1 q2 q3 ql
  gi_loopw [12] (fun p wr => ∃ i : Nat, i ≤ 3 ∧ p = .int .i64 i ∧ J ((numsI ⟨k, xa, xb, xc⟩).take i) wr ∧ Hid (KeepN b W wr)) (fun p _ => 3 - (intOf p).toNat)
  case atStart => exact ⟨0, by omega, rfl, h0, KeepN.refl _ _⟩
  case round =>
    obtain ⟨i, hi, rfl, hJs, HK⟩ := hrel
    obtain ⟨q0, q1, q2, q3, ql⟩ := ins_cells (x := ⟨k, xa, xb, xc⟩) (HK.out.1.trans HBX.out)
    dsimp only at q0
    clear q1 q2 q3
    have hO2 := HO.out.block HK.out.2
    have n0 := hO2.num k 0 k12 (by omega)
    have n1 := hO2.num k 1 k12 (by omega)
    have n2 := hO2.num k 2 k12 (by omega)
    have ol := hO2.lt
    have hkc : decide ((k : Int) < 12) = true := by simp; omega
    clear hO2
    have hii : i = 0 ∨ i = 1 ∨ i = 2 ∨ i = 3 := by omega
    rcases hii with rfl | rfl | rfl | rfl
    · have hJ0 : J [] wr := by rw [HN.out] at hJs; exact hJs
      obtain ⟨fn, tmps, assign, body, hy, hR⟩ := hY [] (numb k 0, xa) wr hJ0 (by simp)
      dsimp only at hy
      have hix := ix3_0 xa xb xc
      gi_wp2_with fail
      refine hR.mono ?_
      rintro e W3 (⟨rfl, hJ3, hk3⟩ | ⟨rfl, hJx3⟩)
      · gi_wp2_with fail
        go_roundw
        case rel => exact ⟨1, by omega, by simp, by rw [HN.out]; exact hJ3, Lib.hid (HK.out.trans hk3)⟩
        case measure => simp [intOf]
      · gi_wp2_with fail
        refine bodyPost_ret (results_none rfl _ _ _) rfl ?_
        exact ⟨⟨_, rfl⟩, .inr ⟨[(numb k 0, xa)], by rw [HN.out]; exact ⟨[(numb k 1, xb), (numb k 2, xc)], rfl⟩, hJx3⟩⟩
    · have hJ0 : J [(numb k 0, xa)] wr := by rw [HN.out] at hJs; exact hJs
      obtain ⟨fn, tmps, assign, body, hy, hR⟩ := hY [(numb k 0, xa)] (numb k 1, xb) wr hJ0 (by simp)
      dsimp only at hy
      have hix := ix3_1 xa xb xc
      gi_wp2_with fail
      refine hR.mono ?_
      rintro e W3 (⟨rfl, hJ3, hk3⟩ | ⟨rfl, hJx3⟩)
      · gi_wp2_with fail
        go_roundw
        case rel => exact ⟨2, by omega, by simp, by rw [HN.out]; exact hJ3, Lib.hid (HK.out.trans hk3)⟩
        case measure => simp [intOf]
      · gi_wp2_with fail
        refine bodyPost_ret (results_none rfl _ _ _) rfl ?_
        exact ⟨⟨_, rfl⟩, .inr ⟨[(numb k 0, xa), (numb k 1, xb)], by rw [HN.out]; exact ⟨[(numb k 2, xc)], rfl⟩, hJx3⟩⟩
    · have hJ0 : J [(numb k 0, xa), (numb k 1, xb)] wr := by rw [HN.out] at hJs; exact hJs
      obtain ⟨fn, tmps, assign, body, hy, hR⟩ := hY [(numb k 0, xa), (numb k 1, xb)] (numb k 2, xc) wr hJ0 (by simp)
      dsimp only at hy
      have hix := ix3_2 xa xb xc
      gi_wp2_with fail
      refine hR.mono ?_
      rintro e W3 (⟨rfl, hJ3, hk3⟩ | ⟨rfl, hJx3⟩)
      · gi_wp2_with fail
        go_roundw
        case rel => exact ⟨3, by omega, by simp, by rw [HN.out]; exact hJ3, Lib.hid (HK.out.trans hk3)⟩
        case measure => simp [intOf]
      · gi_wp2_with fail
        refine bodyPost_ret (results_none rfl _ _ _) rfl ?_
        exact ⟨⟨_, rfl⟩, .inr ⟨[(numb k 0, xa), (numb k 1, xb), (numb k 2, xc)], by rw [HN.out]; exact ⟨[], rfl⟩, hJx3⟩⟩
    · have hJ0 : J (numsI ⟨k, xa, xb, xc⟩) wr := by rw [HN.out] at hJs ⊢; exact hJs
      gi_wp2_with fail
      go_end0
      exact ⟨⟨_, rfl⟩, .inl ⟨_, rfl, hJ0⟩⟩

end Go.Proofs.YtkobeajbiendlaaDoor
namespace Go.Proofs.YtkobeajbiendlaaDoor
open Go.RowKit Go.Shelf
attribute [local go_sem] Oper.semAt_some

theorem wpIn_scope_wide {n : Nat} {P : Program} {c : Code} {Q : Exit → Act → World → Prop} {a : Act} {w : World} (h : c.wpIn Fence.wide n P (Exit.noGoto Q) a w) : (Code.scope c).wpIn Fence.wide n P Q a w :=
  wpIn_wide.2 (wp_scope_straight (wpIn_wide.1 h))

theorem numbers_any (x : Ins) (w : World) : Calls Tryd.prog 71 #[.agg #[.int .i64 x.op, .int .i64 x.a, .int .i64 x.b, .int .i64 x.c]] w fun e w' =>
    e = .returned (.func (.func 85) #[] #[.pointer (some ⟨w.heap.size, 0, none⟩)]) ∧ w' = w.alloc (.cells #[.int .i64 x.op, .int .i64 x.a, .int .i64 x.b, .int .i64 x.c] 36) := by
  go_enter Tryd.func71, Tryd.ntmps71
  go_wp2
  go_ret
  exact ⟨rfl, rfl⟩

set_option maxRecDepth 100000 in
set_option maxHeartbeats 4000000 in
theorem imay_any (x : Ins) (m : Int) (w : World) (hO : Ops w) : Calls Tryd.prog 47 #[.agg #[.int .i64 x.op, .int .i64 x.a, .int .i64 x.b, .int .i64 x.c], .int .i64 m] w fun e w' => e = .returned (.int .i64 (mayV x m)) ∧ Below w.heap.size w w' := by
  refine (callsIn_wide (n := 6)).1 ?_
  have hro : Fence.wide.round = none := rfl
  refine callsIn_of_wp_marks Tryd.func47 rfl trivial ?_ hro
  simp only [Tryd.ntmps47, List.size_toArray, List.length_cons, List.length_nil, Nat.reduceAdd, Nat.reduceSub, Array.replicate_succ, Array.replicate_zero, List.push_toArray, List.append_toArray, List.nil_append, List.cons_append]
  have HO := Lib.hid hO
  clear hO
  gi_wp2_with fail
  refine wpIn_scope_wide ?_
  gi_wp2_with fail
  refine ⟨trivial, (callsIn_wide.2 (isop_any x.op _)).mono ?_⟩
  rintro e w1 ⟨rfl, hw⟩
  subst hw
  cases hop : opB x.op
  · have HOP := Lib.hid hop
    clear hop
    gi_wp2_with fail
    rw [Exit.noGoto_ret]
    refine ⟨.int .i64 15, ?_, ret_int (by simp [mayV, HOP.out]), (by repeat (with_reducible first | exact Below.refl _ _ | assumption | (refine ext_next (by assumption) ?_) | apply ext_alloc | apply ext_past | apply ext_drew | apply ext_drewN))⟩
    simp [results, Tryd.f47, go_sem]
  · have HOP := Lib.hid hop
    clear hop
    gi_wp2_with fail
    refine wpIn_label ?_
    gi_wp2_with fail
    refine ⟨trivial, (callsIn_wide.2 (numbers_any x _)).mono ?_⟩
    rintro e w2 ⟨rfl, hw⟩
    subst hw
    gi_wp2_with fail
    obtain ⟨W0, hW0⟩ : ∃ W0, W0 = (((w.alloc (.cells #[.int .i64 x.op, .int .i64 x.a, .int .i64 x.b, .int .i64 x.c] 36)).alloc (.cells #[.int .i64 m] 3)).alloc (.cells #[.int .i64 0] 25)).alloc (.cells #[.int .i64 x.op, .int .i64 x.a, .int .i64 x.b, .int .i64 x.c] 36) := ⟨_, rfl⟩
    have hb0 : Below w.heap.size w W0 := by rw [hW0]; exact (by repeat (with_reducible first | exact Below.refl _ _ | assumption | (refine ext_next (by assumption) ?_) | apply ext_alloc | apply ext_past | apply ext_drew | apply ext_drewN))
    have hm0 : W0.heap[w.heap.size + 1]? = some (.cells #[.int .i64 m] 3 (0, 0)) := by rw [hW0]; exact alOld (alOld (alNew (by simp)))
    have he0 : W0.heap[w.heap.size + 1 + 1]? = some (.cells #[.int .i64 0] 25 (0, 0)) := by rw [hW0]; exact alOld (alNew (by simp))
    have hx0 : W0.heap[w.heap.size + 1 + 1 + 1]? = some (.cells #[.int .i64 x.op, .int .i64 x.a, .int .i64 x.b, .int .i64 x.c] 36 (0, 0)) := by rw [hW0]; exact alNew (by simp)
    have hs0 := lt_of hx0
    rw [← hW0]
    clear hW0
    refine wpIn_rangeFunc_var [(6, 0), (7, 1)] hro (by omega) (gf := 85) (lb := #[.pointer (some ⟨w.heap.size + 1 + 1 + 1, 0, none⟩)]) rfl trivial (enters_of Tryd.func85 (by kernel_rfl) rfl)
      (numbers_stops (6 - 1) (by omega) (w.heap.size + 1 + 1 + 1) x W0 (HO.out.ext hb0) hx0 HOP.out) (fun h k => h.trans k) (KeepN.refl _) (fun W l o o' hl ho hc hw => ?kp) (Below.refl _ _) (fun _ => rfl)
      (fun pre W => (W.heap[w.heap.size + 1]? = some (.cells #[.int .i64 m] 3 (0, 0)) ∧ W.heap[w.heap.size + 1 + 1]? = some (.cells #[.int .i64 0] 25 (0, 0)) ∧ pre.all (fun y => fitB y.1 y.2 m) = true) ∧ Below w.heap.size w W)
      (fun cc pre W => (cc = .exit 0 ∧ W.heap[w.heap.size + 1 + 1]? = some (.cells #[.int .i64 10] 25 (0, 0)) ∧ pre.all (fun y => fitB y.1 y.2 m) = false) ∧ Below w.heap.size w W)
      (OwnFrom.and (Own.from (fun s A B row hs hg hr => ⟨blk_held hs.1 hg hr, blk_held hs.2.1 hg hr, hs.2.2⟩) _) (ownFrom_below (Nat.le_refl _) (by omega)))
      (fun cc => OwnFrom.and (Own.from (fun s A B row hs hg hr => ⟨hs.1, blk_held hs.2.1 hg hr, hs.2.2⟩) _) (ownFrom_below (Nat.le_refl _) (by omega)))
      ⟨⟨hm0, he0, rfl⟩, hb0⟩ ?assign ?body ?done ?stop
    case kp => exact ⟨World.putObj_heap_other (by omega), World.putObj_heap_other (by have := HO.out.lt; omega)⟩
    case assign =>
      intro l y W K hK
      unfold varFrame at hK
      simp at hK
      gi_wp2
      exact hK
    case body =>
      rintro l pre y W hl hr ⟨⟨hm, he, hall⟩, hB⟩ hlen
      have HALL := Lib.hid hall
      have HM := Lib.hid hm
      have HE := Lib.hid he
      have km := cell_of hm
      have ke := cell_of he
      have kf := free_of he
      have kl := lt_of he
      have kl2 := lt_of hm
      clear hall hm he hr hlen hm0 he0 hx0 hl
      unfold varFrame
      gi_wp2_with fail
      refine ⟨trivial, (CallsIn.inRound l (callsIn_wide.2 (fits_any y.1 y.2 m _))).mono ?_⟩
      rintro e w3 ⟨rfl, hw⟩
      subst hw
      cases hf : fitB y.1 y.2 m
      · have HF := Lib.hid hf
        clear hf
        gi_wp2_with fail
        have hset := set_of (u := .int .i64 10) HE.out
        exact ⟨(KeepsOthers.setCell _ _ _).from _, ⟨rfl, hset, by simp [HF.out]⟩, hB.setCell (p := ⟨w.heap.size + 1 + 1, 0, none⟩) (by simp; omega) _⟩
      · have HF := Lib.hid hf
        clear hf
        gi_wp2_with fail
        exact ⟨(KeepsOthers.refl _).from _, KeepN.refl _ _, ⟨HM.out, HE.out, by simp [HALL.out, HF.out]⟩, hB⟩
    case done =>
      rintro D ys W hD rfl ⟨⟨hm, he, hall⟩, hB⟩ hK
      have HALL := Lib.hid hall
      have ke := cell_of he
      have kl := lt_of he
      clear hall hm he hm0 he0 hx0
      gi_wp2_with fail
      rw [Exit.noGoto_ret]
      refine ⟨by simp, .inl ⟨_, _, rfl, run_takeDeferred hK, ?_⟩⟩
      refine ⟨.int .i64 0, ?_, ret_int (by simp [mayV, HOP.out, HALL.out]), hB.trans (belowK_b (w := w) (Nat.le_refl _) _ D _ _ (by omega) hK rfl rfl)⟩
      simp [results, Tryd.f47, go_sem]
    case stop =>
      rintro D cc pre W hD hpre ⟨⟨rfl, he, hall⟩, hB⟩ hK
      have HALL : Hid ((numsI x).all (fun y => fitB y.1 y.2 m) = false) := Lib.hid (by
        obtain ⟨t, ht⟩ := hpre
        rw [← ht, List.all_append, hall]
        rfl)
      have ke := cell_of he
      have kl := lt_of he
      clear hall he hm0 he0 hx0 hpre
      gi_wp2_with fail
      rw [Exit.noGoto_ret]
      refine ⟨by simp, .inl ⟨_, _, rfl, run_takeDeferred hK, ?_⟩⟩
      refine ⟨.int .i64 10, ?_, ret_int (by simp [mayV, HOP.out, HALL.out]), hB.trans (belowK_b (w := w) (Nat.le_refl _) _ D _ _ (by omega) hK rfl rfl)⟩
      simp [results, Tryd.f47, go_sem]

/-- An instruction of a list. -/
def Ins.none : Ins := ⟨0, 0, 0, 0⟩
def atI (l : List Ins) (i : Nat) : Ins := l[i]?.getD Ins.none
/-- A list of instructions in memory. -/
def SlN (w : World) (A : Option Addr) (l : List Ins) : Prop :=
  0 < l.length → ∃ b off, A = some ⟨b, off, none⟩ ∧ b < w.heap.size ∧ ∀ i, i < l.length → w.cell? ⟨b, off + i * 4, none⟩ = some (.int .i64 (atI l i).op) ∧ w.cell? ⟨b, off + i * 4 + 1, none⟩ = some (.int .i64 (atI l i).a) ∧ w.cell? ⟨b, off + i * 4 + 2, none⟩ = some (.int .i64 (atI l i).b) ∧ w.cell? ⟨b, off + i * 4 + 3, none⟩ = some (.int .i64 (atI l i).c)
theorem SlN.ext {w w' : World} {A : Option Addr} {l : List Ins} (h : SlN w A l) (hb : Below w.heap.size w w') : SlN w' A l := fun h0 => by
  obtain ⟨b, off, hA, hl, hc⟩ := h h0
  exact ⟨b, off, hA, Nat.lt_of_lt_of_le hl hb.size, fun i hi => ⟨(hb.cell (p := ⟨b, off + i * 4, none⟩) hl).trans (hc i hi).1, (hb.cell (p := ⟨b, off + i * 4 + 1, none⟩) hl).trans (hc i hi).2.1, (hb.cell (p := ⟨b, off + i * 4 + 2, none⟩) hl).trans (hc i hi).2.2.1, (hb.cell (p := ⟨b, off + i * 4 + 3, none⟩) hl).trans (hc i hi).2.2.2⟩⟩

/-- What is wrong with the first instructions: the place behind the first bad one, and its error. -/
def chkV (l : List Ins) (m : Int) : Nat → Int × Int
  | 0 => (0, 0)
  | k + 1 => if (chkV l m k).2 = 0 then (if mayV (atI l k) m = 0 then (0, 0) else ((k : Int) + 1, mayV (atI l k) m)) else chkV l m k
/-- What is wrong with a program. -/
def chkP (l : List Ins) : Int × Int := if 32 < l.length then (0, 11) else chkV l l.length l.length
theorem chkV_zero {l : List Ins} {m : Int} : ∀ {k : Nat}, (chkV l m k).2 = 0 → chkV l m k = (0, 0)
  | 0, _ => rfl
  | k + 1, h => by
    unfold chkV at h ⊢
    split at h
    · rename_i h0
      rw [if_pos h0]
      split at h
      · rename_i h1
        rw [if_pos h1]
      · rename_i h1
        exact absurd h h1
    · rename_i h0
      exact absurd h h0
theorem chkV_bad {l : List Ins} {m : Int} {k : Nat} (h : (chkV l m k).2 ≠ 0) : ∀ n, k ≤ n → chkV l m n = chkV l m k
  | 0, h0 => by rw [Nat.le_zero.1 h0]
  | n + 1, h0 => by
    by_cases hk : k = n + 1
    · rw [hk]
    · have := chkV_bad h n (by omega)
      show (if (chkV l m n).2 = 0 then _ else chkV l m n) = _
      rw [this, if_neg h]

set_option maxRecDepth 100000 in
set_option maxHeartbeats 4000000 in
theorem icheck_any (A : Option Addr) (l : List Ins) (cap : Nat) (w : World) (h : SlN w A l) (hO : Ops w) : Calls Tryd.prog 16 #[.slice A l.length cap] w fun e w' => e = .returned (.tuple #[.int .i64 (chkP l).1, .int .i64 (chkP l).2]) ∧ Below w.heap.size w w' := by
  have H := Lib.hid h
  have HO := Lib.hid hO
  clear h hO
  by_cases h32 : 32 < l.length
  · have e1 : decide ((l.length : Int) > 32) = true := by simp; omega
    have HC : Hid (chkP l = (0, 11)) := Lib.hid (by unfold chkP; rw [if_pos h32])
    rw [HC.out]
    go_enter Tryd.func16, Tryd.ntmps16
    go_wp2_with fail
    go_ret2
    exact ⟨rfl, Below.refl _ _⟩
  · have e1 : decide ((l.length : Int) > 32) = false := by simp; omega
    have HC : Hid (chkP l = chkV l l.length l.length) := Lib.hid (by unfold chkP; rw [if_neg h32])
    rw [HC.out]
    go_enter Tryd.func16, Tryd.ntmps16
    go_wp2_with fail
    go_loopg [12] l.length (fun g s12 wr => ∃ k : Nat, k + g = l.length ∧ s12 = .int .i64 k ∧ Hid ((chkV l l.length k).2 = 0) ∧ Hid (Below w.heap.size w wr))
    case atStart => exact ⟨0, by omega, rfl, Lib.hid rfl, Below.refl _ _⟩
    case round =>
      obtain ⟨k, hk, rfl, HV, HB⟩ := hrel
      by_cases hlt : k < l.length
      · have ek : decide ((k : Int) < (l.length : Int)) = true := by simp; omega
        obtain ⟨b, off, rfl, hb, hc⟩ := H.out (by omega)
        have hcc := hc k hlt
        have eb := HB.out.block b hb
        have o0 := (World.cell?_of_block (a := ⟨b, off + k * 4, none⟩) eb).trans hcc.1
        have o1 := (World.cell?_of_block (a := ⟨b, off + k * 4 + 1, none⟩) eb).trans hcc.2.1
        have o2 := (World.cell?_of_block (a := ⟨b, off + k * 4 + 2, none⟩) eb).trans hcc.2.2.1
        have o3 := (World.cell?_of_block (a := ⟨b, off + k * 4 + 3, none⟩) eb).trans hcc.2.2.2
        have hbr : b < wr.heap.size := by have := HB.out.size; omega
        have HS : Hid ((chkV l l.length (k + 1)) = if mayV (atI l k) l.length = 0 then (0, 0) else ((k : Int) + 1, mayV (atI l k) l.length)) := Lib.hid (by
          show (if (chkV l l.length k).2 = 0 then _ else _) = _
          rw [if_pos HV.out])
        clear hc hcc eb
        generalize atI l k = x at o0 o1 o2 o3 HS
        go_wp2_with fail
        refine (imay_any x l.length _ ((HO.out.ext HB.out).ext (ext_alloc _ (Below.refl _ _)))).mono ?_
        rintro e w3 ⟨rfl, hb3⟩
        have HB3 := Lib.hid (HB.out.trans ((ext_next hb3 (ext_alloc _ (Below.refl _ _))).mono HB.out.size))
        clear hb3 o0 o1 o2 o3
        by_cases hm : mayV x l.length = 0
        · rw [hm]
          have HM := Lib.hid hm
          clear hm
          go_wp2_with fail
          go_roundg (l.length - (k + 1))
          case measure => omega
          case rel => exact ⟨k + 1, by omega, by go_num, Lib.hid (by rw [HS.out, if_pos HM.out]), HB3⟩
        · have em : (mayV x l.length != 0) = true := by simpa using hm
          have HR : Hid (chkV l l.length l.length = ((k : Int) + 1, mayV x l.length)) := Lib.hid (by
            have h1 : (chkV l l.length (k + 1)) = ((k : Int) + 1, mayV x l.length) := by rw [HS.out, if_neg hm]
            rw [chkV_bad (k := k + 1) (by rw [h1]; exact hm) l.length hlt, h1])
          clear hm
          generalize mayV x l.length = r at em HR ⊢
          go_wp2_with fail
          go_ret2
          exact ⟨by rw [HR.out]; rfl, HB3.out⟩
      · have ek : decide ((k : Int) < (l.length : Int)) = false := by simp; omega
        have hkl : k = l.length := by omega
        have HR : Hid (chkV l l.length l.length = (0, 0)) := Lib.hid (by rw [← hkl]; rw [← hkl] at HV; exact chkV_zero HV.out)
        clear hkl
        go_wp2_with fail
        go_ret2
        exact ⟨by rw [HR.out]; rfl, HB.out⟩

end Go.Proofs.YtkobeajbiendlaaDoor
