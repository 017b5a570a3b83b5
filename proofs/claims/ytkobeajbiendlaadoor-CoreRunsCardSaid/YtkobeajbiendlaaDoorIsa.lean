/- What this text holds: which instructions there may be. Condition: the table of ops holds what its initialiser lays. -/
import Derived.Test.YtkobeajbiendlaaDoorRst
namespace Go.Proofs.YtkobeajbiendlaaDoor
open Go.RowKit Go.Shelf
attribute [local go_sem] Oper.semAt_some

/-- The table of ops, as its initialiser lays it. -/
def Ops (w : World) : Prop := ∃ t fr, w.heap[(0 : Nat)]? = some (.cells #[.string ⟨#[]⟩, .int .i64 0, .int .i64 0, .int .i64 0, .string ⟨#[115, 101, 116]⟩, .int .i64 1, .int .i64 2, .int .i64 0, .string ⟨#[97, 100, 100]⟩, .int .i64 1, .int .i64 1, .int .i64 1, .string ⟨#[108, 111, 97, 100]⟩, .int .i64 1, .int .i64 1, .int .i64 0, .string ⟨#[115, 116, 111, 114, 101]⟩, .int .i64 1, .int .i64 1, .int .i64 0, .string ⟨#[115, 119, 97, 112]⟩, .int .i64 1, .int .i64 1, .int .i64 0, .string ⟨#[102, 101, 110, 99, 101]⟩, .int .i64 0, .int .i64 0, .int .i64 0, .string ⟨#[119, 111, 114, 108, 100]⟩, .int .i64 3, .int .i64 0, .int .i64 0, .string ⟨#[99, 97, 108, 108]⟩, .int .i64 4, .int .i64 1, .int .i64 1, .string ⟨#[106, 117, 109, 112]⟩, .int .i64 5, .int .i64 0, .int .i64 0, .string ⟨#[122, 101, 114, 111]⟩, .int .i64 1, .int .i64 5, .int .i64 0, .string ⟨#[104, 97, 108, 116]⟩, .int .i64 0, .int .i64 0, .int .i64 0] t fr)
theorem Ops.lt {w : World} (h : Ops w) : 0 < w.heap.size := by obtain ⟨_, _, h⟩ := h; exact lt_of h
theorem Ops.block {w w' : World} (h : Ops w) (hb : w'.heap[(0 : Nat)]? = w.heap[(0 : Nat)]?) : Ops w' := by
  obtain ⟨t, fr, h⟩ := h; exact ⟨t, fr, hb.trans h⟩
theorem Ops.ext {w w' : World} (h : Ops w) (hb : Below w.heap.size w w') : Ops w' := h.block (hb.block _ h.lt)

/-- What the numbers of an op may be. -/
def numb (k j : Nat) : Int := (([[0, 0, 0], [1, 2, 0], [1, 1, 1], [1, 1, 0], [1, 1, 0], [1, 1, 0], [0, 0, 0], [3, 0, 0], [4, 1, 1], [5, 0, 0], [1, 5, 0], [0, 0, 0]] : List (List Int))[k]?.getD [])[j]?.getD 0
theorem Ops.num {w : World} (h : Ops w) (k j : Nat) (hk : k < 12) (hj : j < 3) : w.cell? ⟨0, k * 4 + 1 + j, none⟩ = some (.int .i64 (numb k j)) := by
  obtain ⟨t, fr, h⟩ := h
  unfold World.cell?
  rw [h]
  have h1 : k = 0 ∨ k = 1 ∨ k = 2 ∨ k = 3 ∨ k = 4 ∨ k = 5 ∨ k = 6 ∨ k = 7 ∨ k = 8 ∨ k = 9 ∨ k = 10 ∨ k = 11 := by omega
  have h2 : j = 0 ∨ j = 1 ∨ j = 2 := by omega
  rcases h1 with rfl | rfl | rfl | rfl | rfl | rfl | rfl | rfl | rfl | rfl | rfl | rfl <;> rcases h2 with rfl | rfl | rfl <;> rfl

/-- An instruction. -/
structure Ins where
  op : Int
  a : Int
  b : Int
  c : Int
def opB (k : Int) : Bool := decide (1 ≤ k) && decide (k < 12)
/-- Its numbers, each with what it may be. -/
def numsI (x : Ins) : List (Int × Int) := [(numb x.op.toNat 0, x.a), (numb x.op.toNat 1, x.b), (numb x.op.toNat 2, x.c)]
def fitB (t v m : Int) : Bool :=
  if t = 1 then decide (0 ≤ v) && decide (v < 4) else if t = 2 then true else if t = 3 then decide (1 ≤ v) && decide (v ≤ 3) else if t = 4 then decide (1 ≤ v) && decide (v ≤ 4) else if t = 5 then decide (0 ≤ v) && decide (v ≤ m) else v == 0
def mayV (x : Ins) (m : Int) : Int := if opB x.op then if (numsI x).all fun y => fitB y.1 y.2 m then 0 else 10 else 15

theorem isop_any (k : Int) (w : World) : Calls Tryd.prog 70 #[.int .i64 k] w fun e w' => e = .returned (.bool (opB k)) ∧ w' = w := by
  unfold opB
  by_cases h1 : 1 ≤ k
  · have e1 : decide (k ≥ 1) = true := by simpa using h1
    go_enter Tryd.func70, Tryd.ntmps70
    go_wp2_with fail
    go_ret
    exact ⟨ret_bool (by simp [h1]), rfl⟩
  · have e1 : decide (k ≥ 1) = false := by simp; omega
    go_enter Tryd.func70, Tryd.ntmps70
    go_wp2_with fail
    go_ret
    exact ⟨ret_bool (by simp), rfl⟩

theorem fits_any (t v m : Int) (w : World) : Calls Tryd.prog 72 #[.int .i64 t, .int .i64 v, .int .i64 m] w fun e w' => e = .returned (.bool (fitB t v m)) ∧ w' = w := by
  obtain ⟨r, hr⟩ : ∃ r, fitB t v m = r := ⟨_, rfl⟩
  have HR := Lib.hid hr
  rw [hr]
  clear hr
  by_cases h1 : t = 1
  · have e1 : (t == 1) = true := by simpa using h1
    by_cases h2 : 0 ≤ v
    · have e2 : decide (v ≥ 0) = true := by simpa using h2
      go_enter Tryd.func72, Tryd.ntmps72
      go_wp2_with fail
      go_ret
      exact ⟨ret_bool (by rw [← HR.out]; first | (simp [fitB, h1, h2]; done) | (simp [fitB, h1, h2]; omega)), rfl⟩
    · have e2 : decide (v ≥ 0) = false := by simp; omega
      go_enter Tryd.func72, Tryd.ntmps72
      go_wp2_with fail
      go_ret
      exact ⟨ret_bool (by rw [← HR.out]; first | (simp [fitB, h1]; done) | (simp [fitB, h1]; omega)), rfl⟩
  have e1 : (t == 1) = false := by simpa using h1
  by_cases h2 : t = 2
  · have e2 : (t == 2) = true := by simpa using h2
    go_enter Tryd.func72, Tryd.ntmps72
    go_wp2_with fail
    go_ret
    exact ⟨ret_bool (by rw [← HR.out]; first | (simp [fitB, h2]; done) | (simp [fitB, h2]; omega)), rfl⟩
  have e2 : (t == 2) = false := by simpa using h2
  by_cases h3 : t = 3
  · have e3 : (t == 3) = true := by simpa using h3
    by_cases h4 : 1 ≤ v
    · have e4 : decide (v ≥ 1) = true := by simpa using h4
      go_enter Tryd.func72, Tryd.ntmps72
      go_wp2_with fail
      go_ret
      exact ⟨ret_bool (by rw [← HR.out]; first | (simp [fitB, h3, h4]; done) | (simp [fitB, h3, h4]; omega)), rfl⟩
    · have e4 : decide (v ≥ 1) = false := by simp; omega
      go_enter Tryd.func72, Tryd.ntmps72
      go_wp2_with fail
      go_ret
      exact ⟨ret_bool (by rw [← HR.out]; first | (simp [fitB, h3]; done) | (simp [fitB, h3]; omega)), rfl⟩
  have e3 : (t == 3) = false := by simpa using h3
  by_cases h4 : t = 4
  · have e4 : (t == 4) = true := by simpa using h4
    by_cases h5 : 1 ≤ v
    · have e5 : decide (v ≥ 1) = true := by simpa using h5
      go_enter Tryd.func72, Tryd.ntmps72
      go_wp2_with fail
      go_ret
      exact ⟨ret_bool (by rw [← HR.out]; first | (simp [fitB, h4, h5]; done) | (simp [fitB, h4, h5]; omega)), rfl⟩
    · have e5 : decide (v ≥ 1) = false := by simp; omega
      go_enter Tryd.func72, Tryd.ntmps72
      go_wp2_with fail
      go_ret
      exact ⟨ret_bool (by rw [← HR.out]; first | (simp [fitB, h4]; done) | (simp [fitB, h4]; omega)), rfl⟩
  have e4 : (t == 4) = false := by simpa using h4
  by_cases h5 : t = 5
  · have e5 : (t == 5) = true := by simpa using h5
    by_cases h6 : 0 ≤ v
    · have e6 : decide (v ≥ 0) = true := by simpa using h6
      go_enter Tryd.func72, Tryd.ntmps72
      go_wp2_with fail
      go_ret
      exact ⟨ret_bool (by rw [← HR.out]; first | (simp [fitB, h5, h6]; done) | (simp [fitB, h5, h6]; omega)), rfl⟩
    · have e6 : decide (v ≥ 0) = false := by simp; omega
      go_enter Tryd.func72, Tryd.ntmps72
      go_wp2_with fail
      go_ret
      exact ⟨ret_bool (by rw [← HR.out]; first | (simp [fitB, h5]; done) | (simp [fitB, h5]; omega)), rfl⟩
  have e5 : (t == 5) = false := by simpa using h5
  go_enter Tryd.func72, Tryd.ntmps72
  go_wp2_with fail
  go_ret
  exact ⟨ret_bool (by rw [← HR.out]; first | (simp [fitB, h1, h2, h3, h4, h5]; done) | (simp [fitB, h1, h2, h3, h4, h5]; omega)), rfl⟩

/-- What a round keeps: the iterator's own cell, and the table. -/
def KeepN (b : Nat) (W W' : World) : Prop := W'.heap[b]? = W.heap[b]? ∧ W'.heap[(0 : Nat)]? = W.heap[(0 : Nat)]?
theorem KeepN.refl (b : Nat) (W : World) : KeepN b W W := ⟨rfl, rfl⟩
theorem KeepN.trans {b : Nat} {x y z : World} (h : KeepN b x y) (k : KeepN b y z) : KeepN b x z := ⟨k.1.trans h.1, k.2.trans h.2⟩
theorem ins_cells {W : World} {b : Nat} {x : Ins} {t : TypeId} {fr : Nat × Nat} (h : W.heap[b]? = some (.cells #[.int .i64 x.op, .int .i64 x.a, .int .i64 x.b, .int .i64 x.c] t fr)) :
    W.cell? ⟨b, 0, none⟩ = some (.int .i64 x.op) ∧ W.cell? ⟨b, 1, none⟩ = some (.int .i64 x.a) ∧ W.cell? ⟨b, 2, none⟩ = some (.int .i64 x.b) ∧ W.cell? ⟨b, 3, none⟩ = some (.int .i64 x.c) ∧ b < W.heap.size := by
  refine ⟨?_, ?_, ?_, ?_, lt_of h⟩ <;> simp [World.cell?, h]

theorem ix3_0 (a b c : Int) (w : World) : (Instr.index 128 (.agg #[.int .i64 a, .int .i64 b, .int .i64 c]) (.int .i64 0)).run Tryd.prog w = .ok (.int .i64 a) w := by kernel_rfl
theorem ix3_1 (a b c : Int) (w : World) : (Instr.index 128 (.agg #[.int .i64 a, .int .i64 b, .int .i64 c]) (.int .i64 1)).run Tryd.prog w = .ok (.int .i64 b) w := by kernel_rfl
theorem ix3_2 (a b c : Int) (w : World) : (Instr.index 128 (.agg #[.int .i64 a, .int .i64 b, .int .i64 c]) (.int .i64 2)).run Tryd.prog w = .ok (.int .i64 c) w := by kernel_rfl

set_option maxRecDepth 100000 in
set_option maxHeartbeats 2000000 in
theorem numbers_stops (n : Nat) (hn : 1 ≤ n) (b : Nat) (x : Ins) (w : World) (hO : Ops w) (hb : w.heap[b]? = some (.cells #[.int .i64 x.op, .int .i64 x.a, .int .i64 x.b, .int .i64 x.c] 36 (0, 0))) (hop : opB x.op = true) :
    SeqStopsK Fence.wide n Tryd.prog 85 #[.pointer (some ⟨b, 0, none⟩)] (fun y : Int × Int => #[Value.int .i64 y.1, Value.int .i64 y.2]) (KeepN b) (fun ys => ys = numsI x) (fun pre => pre <+: numsI x) 3 w := fun l J Jx W hW hJ _ hY h0 => by
  have hOW := hO.ext hW
  have hbW := (hW.block _ (lt_of hb)).trans hb
  obtain ⟨k, hk⟩ : ∃ k : Nat, x.op = k := by
    have h2 : 1 ≤ x.op ∧ x.op < 12 := by simpa [opB] using hop
    exact ⟨x.op.toNat, by omega⟩
  have hk12 : k < 12 ∧ 1 ≤ k := by
    have h2 : 1 ≤ x.op ∧ x.op < 12 := by simpa [opB] using hop
    omega
  have hN : numsI x = [(numb k 0, x.a), (numb k 1, x.b), (numb k 2, x.c)] := by simp [numsI, hk]
  obtain ⟨xo, xa, xb, xc⟩ := x
  dsimp only at *
  subst hk
  have HN := Lib.hid hN
  have HO := Lib.hid hOW
  have HBX := Lib.hid hbW
  obtain ⟨k12, k1⟩ := hk12
  clear hN hOW hO hop hW
  obtain ⟨q0, q1, q2, q3, ql⟩ := ins_cells (x := ⟨k, xa, xb, xc⟩) hbW
  dsimp only at q0 q1 q2 q3
  clear hbW hb
  refine callsIn_of_wp Tryd.func85 rfl trivial ?_ rfl
  simp only [Tryd.ntmps85, List.size_toArray, List.length_cons, List.length_nil, Nat.reduceAdd, Nat.reduceSub, Array.replicate_succ, Array.replicate_zero, List.push_toArray, List.append_toArray, List.nil_append, List.cons_append]
  gi_wp2_with fail
  clear q0 q1 q2 q3 ql
  gi_loopw [12] (fun p wr => ∃ i : Nat, i ≤ 3 ∧ p = .int .i64 i ∧ J ((numsI ⟨k, xa, xb, xc⟩).take i) wr ∧ Hid (KeepN b W wr)) (fun p _ => 3 - (intOf p).toNat)
  case atStart => exact ⟨0, by omega, rfl, h0, KeepN.refl _ _⟩
  case round =>
    obtain ⟨i, hi, rfl, hJs, HK⟩ := hrel
    obtain ⟨q0, q1, q2, q3, ql⟩ := ins_cells (x := ⟨k, xa, xb, xc⟩) (HK.out.1.trans HBX.out)
    dsimp only at q0
    clear q1 q2 q3
    have hO2 := HO.out.block HK.out.2
    have n0 := hO2.num k 0 k12 (by omega)
    have n1 := hO2.num k 1 k12 (by omega)
    have n2 := hO2.num k 2 k12 (by omega)
    have ol := hO2.lt
    have hkc : decide ((k : Int) < 12) = true := by simp; omega
    clear hO2
    have hii : i = 0 ∨ i = 1 ∨ i = 2 ∨ i = 3 := by omega
    rcases hii with rfl | rfl | rfl | rfl
    · have hJ0 : J [] wr := by rw [HN.out] at hJs; exact hJs
      obtain ⟨fn, tmps, assign, body, hy, hR⟩ := hY [] (numb k 0, xa) wr hJ0 (by simp)
      dsimp only at hy
      have hix := ix3_0 xa xb xc
      gi_wp2_with fail
      refine hR.mono ?_
      rintro e W3 (⟨rfl, hJ3, hk3⟩ | ⟨rfl, hJx3⟩)
      · gi_wp2_with fail
        go_roundw
        case rel => exact ⟨1, by omega, by simp, by rw [HN.out]; exact hJ3, Lib.hid (HK.out.trans hk3)⟩
        case measure => simp [intOf]
      · gi_wp2_with fail
        refine bodyPost_ret (results_none rfl _ _ _) rfl ?_
        exact ⟨⟨_, rfl⟩, .inr ⟨[(numb k 0, xa)], by rw [HN.out]; exact ⟨[(numb k 1, xb), (numb k 2, xc)], rfl⟩, hJx3⟩⟩
    · have hJ0 : J [(numb k 0, xa)] wr := by rw [HN.out] at hJs; exact hJs
      obtain ⟨fn, tmps, assign, body, hy, hR⟩ := hY [(numb k 0, xa)] (numb k 1, xb) wr hJ0 (by simp)
      dsimp only at hy
      have hix := ix3_1 xa xb xc
      gi_wp2_with fail
      refine hR.mono ?_
      rintro e W3 (⟨rfl, hJ3, hk3⟩ | ⟨rfl, hJx3⟩)
      · gi_wp2_with fail
        go_roundw
        case rel => exact ⟨2, by omega, by simp, by rw [HN.out]; exact hJ3, Lib.hid (HK.out.trans hk3)⟩
        case measure => simp [intOf]
      · gi_wp2_with fail
        refine bodyPost_ret (results_none rfl _ _ _) rfl ?_
        exact ⟨⟨_, rfl⟩, .inr ⟨[(numb k 0, xa), (numb k 1, xb)], by rw [HN.out]; exact ⟨[(numb k 2, xc)], rfl⟩, hJx3⟩⟩
    · have hJ0 : J [(numb k 0, xa), (numb k 1, xb)] wr := by rw [HN.out] at hJs; exact hJs
      obtain ⟨fn, tmps, assign, body, hy, hR⟩ := hY [(numb k 0, xa), (numb k 1, xb)] (numb k 2, xc) wr hJ0 (by simp)
      dsimp only at hy
      have hix := ix3_2 xa xb xc
      gi_wp2_with fail
      refine hR.mono ?_
      rintro e W3 (⟨rfl, hJ3, hk3⟩ | ⟨rfl, hJx3⟩)
      · gi_wp2_with fail
        go_roundw
        case rel => exact ⟨3, by omega, by simp, by rw [HN.out]; exact hJ3, Lib.hid (HK.out.trans hk3)⟩
        case measure => simp [intOf]
      · gi_wp2_with fail
        refine bodyPost_ret (results_none rfl _ _ _) rfl ?_
        exact ⟨⟨_, rfl⟩, .inr ⟨[(numb k 0, xa), (numb k 1, xb), (numb k 2, xc)], by rw [HN.out]; exact ⟨[], rfl⟩, hJx3⟩⟩
    · have hJ0 : J (numsI ⟨k, xa, xb, xc⟩) wr := by rw [HN.out] at hJs ⊢; exact hJs
      gi_wp2_with fail
      go_end0
      exact ⟨⟨_, rfl⟩, .inl ⟨_, rfl, hJ0⟩⟩

end Go.Proofs.YtkobeajbiendlaaDoor
