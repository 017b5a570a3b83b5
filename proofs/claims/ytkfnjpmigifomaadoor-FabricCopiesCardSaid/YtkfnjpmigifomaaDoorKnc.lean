/- What this text holds: what is wrong with a note. Condition: the tables of kinds and of limits hold what their initialisers lay. -/
import Derived.Test.YtkfnjpmigifomaaDoorKnf
namespace Go.Proofs.YtkfnjpmigifomaaDoor
open Go.RowKit Go.Shelf
attribute [local go_sem] Oper.semAt_some

theorem ix7_0 (a0 a1 a2 a3 a4 a5 a6 : Int) (w : World) : (Instr.index 95 (.agg #[.int .i64 a0, .int .i64 a1, .int .i64 a2, .int .i64 a3, .int .i64 a4, .int .i64 a5, .int .i64 a6]) (.int .i64 0)).run Tryd.prog w = .ok (.int .i64 a0) w := by kernel_rfl
theorem ix7_1 (a0 a1 a2 a3 a4 a5 a6 : Int) (w : World) : (Instr.index 95 (.agg #[.int .i64 a0, .int .i64 a1, .int .i64 a2, .int .i64 a3, .int .i64 a4, .int .i64 a5, .int .i64 a6]) (.int .i64 1)).run Tryd.prog w = .ok (.int .i64 a1) w := by kernel_rfl
theorem ix7_2 (a0 a1 a2 a3 a4 a5 a6 : Int) (w : World) : (Instr.index 95 (.agg #[.int .i64 a0, .int .i64 a1, .int .i64 a2, .int .i64 a3, .int .i64 a4, .int .i64 a5, .int .i64 a6]) (.int .i64 2)).run Tryd.prog w = .ok (.int .i64 a2) w := by kernel_rfl
theorem ix7_3 (a0 a1 a2 a3 a4 a5 a6 : Int) (w : World) : (Instr.index 95 (.agg #[.int .i64 a0, .int .i64 a1, .int .i64 a2, .int .i64 a3, .int .i64 a4, .int .i64 a5, .int .i64 a6]) (.int .i64 3)).run Tryd.prog w = .ok (.int .i64 a3) w := by kernel_rfl
theorem ix7_4 (a0 a1 a2 a3 a4 a5 a6 : Int) (w : World) : (Instr.index 95 (.agg #[.int .i64 a0, .int .i64 a1, .int .i64 a2, .int .i64 a3, .int .i64 a4, .int .i64 a5, .int .i64 a6]) (.int .i64 4)).run Tryd.prog w = .ok (.int .i64 a4) w := by kernel_rfl
theorem ix7_5 (a0 a1 a2 a3 a4 a5 a6 : Int) (w : World) : (Instr.index 95 (.agg #[.int .i64 a0, .int .i64 a1, .int .i64 a2, .int .i64 a3, .int .i64 a4, .int .i64 a5, .int .i64 a6]) (.int .i64 5)).run Tryd.prog w = .ok (.int .i64 a5) w := by kernel_rfl
theorem ix7_6 (a0 a1 a2 a3 a4 a5 a6 : Int) (w : World) : (Instr.index 95 (.agg #[.int .i64 a0, .int .i64 a1, .int .i64 a2, .int .i64 a3, .int .i64 a4, .int .i64 a5, .int .i64 a6]) (.int .i64 6)).run Tryd.prog w = .ok (.int .i64 a6) w := by kernel_rfl
theorem ix7F (k i : Nat) (h : i < 7) (w : World) : (Instr.index 95 (.agg #[.int .i64 (fldT k 0), .int .i64 (fldT k 1), .int .i64 (fldT k 2), .int .i64 (fldT k 3), .int .i64 (fldT k 4), .int .i64 (fldT k 5), .int .i64 (fldT k 6)]) (.int .i64 i)).run Tryd.prog w = .ok (.int .i64 (fldT k i)) w := by
  have h1 : i = 0 ∨ i = 1 ∨ i = 2 ∨ i = 3 ∨ i = 4 ∨ i = 5 ∨ i = 6 := by omega
  rcases h1 with rfl | rfl | rfl | rfl | rfl | rfl | rfl
  · exact ix7_0 _ _ _ _ _ _ _ _
  · exact ix7_1 _ _ _ _ _ _ _ _
  · exact ix7_2 _ _ _ _ _ _ _ _
  · exact ix7_3 _ _ _ _ _ _ _ _
  · exact ix7_4 _ _ _ _ _ _ _ _
  · exact ix7_5 _ _ _ _ _ _ _ _
  · exact ix7_6 _ _ _ _ _ _ _ _
theorem fldT_at {k i : Nat} (h : i < (fieldsT k).length) : fldT k i = (fieldsT k)[i] := by simp [fldT, h]
set_option maxRecDepth 100000 in
set_option maxHeartbeats 2000000 in
theorem fields_runs (n : Nat) (hn : 1 ≤ n) (b k : Nat) (hk14 : k < 14) (w : World) (hK : Kinds w) (hb : w.heap[b]? = some (.cells #[.int .i64 k] 3 (0, 0))) :
    SeqRuns Fence.wide n Tryd.prog 103 #[.pointer (some ⟨b, 0, none⟩)] (fun x : Int => #[.int .i64 x]) (fun _ _ => True) (fun pre x => pre ++ [x] <+: fieldsT k) (fun ys => ys = fieldsT k) (fun pre => pre <+: fieldsT k) w := fun l J Jx W hW _ hJ _ hY h0 => by
  have hKW := hK.ext hW
  have hbW := (hW.block _ (lt_of hb)).trans hb
  have kb := cell_of hbW
  have kbl := lt_of hbW
  have kl := hKW.lt
  have q0 := hKW.fld k 0 hk14 (by omega)
  have q1 := hKW.fld k 1 hk14 (by omega)
  have q2 := hKW.fld k 2 hk14 (by omega)
  have q3 := hKW.fld k 3 hk14 (by omega)
  have q4 := hKW.fld k 4 hk14 (by omega)
  have q5 := hKW.fld k 5 hk14 (by omega)
  have q6 := hKW.fld k 6 hk14 (by omega)
  have hkc : (k : Int) < 14 := by omega
  obtain ⟨hl7, hne⟩ := fields_bd k
  have HL7 := Lib.hid hl7
  have HNE := Lib.hid hne
  clear hK hKW hb hbW hW hl7 hne
  refine callsIn_of_wp Tryd.func103 rfl trivial ?_ rfl
  simp only [Tryd.ntmps103, List.size_toArray, List.length_cons, List.length_nil, Nat.reduceAdd, Nat.reduceSub, Array.replicate_succ, Array.replicate_zero, List.push_toArray, List.append_toArray, List.nil_append, List.cons_append]
  gi_wp2_with fail
  clear kb kbl kl q0 q1 q2 q3 q4 q5 q6 hkc
  gi_loopw [9] (fun p wr => ∃ i : Nat, i ≤ (fieldsT k).length ∧ p = .int .i64 i ∧ J ((fieldsT k).take i) wr) (fun p _ => 7 - (intOf p).toNat)
  case atStart => exact ⟨0, by omega, rfl, h0⟩
  case round =>
    obtain ⟨i, hi, rfl, hJs⟩ := hrel
    by_cases hi7 : i = 7
    · have HJs : Hid (J (fieldsT k) wr) := Lib.hid (by rw [List.take_of_length_le (by have := HL7.out; omega)] at hJs; exact hJs)
      clear hJs hi
      subst hi7
      gi_wp2_with fail
      go_end0
      exact ⟨⟨_, rfl⟩, .inl ⟨_, rfl, HJs.out⟩⟩
    have hi8 : i < 7 := by have := HL7.out; omega
    have hix := ix7F k i hi8
    have ek : decide ((i : Int) < 7) = true := by simp; omega
    by_cases hlt : i < (fieldsT k).length
    · have HT : Hid ((fieldsT k).take (i + 1) = (fieldsT k).take i ++ [fldT k i]) := Lib.hid (by rw [fldT_at hlt]; exact List.take_succ_eq_append_getElem hlt)
      have hn0 : (fldT k i == 0) = false := by
        have := HNE.out (fldT k i) (by rw [fldT_at hlt]; exact List.getElem_mem hlt)
        simp
        omega
      obtain ⟨fn, tmps, assign, body, hy, hR⟩ := hY _ (fldT k i) wr hJs (by rw [← HT.out]; exact List.take_prefix _ _)
      have hJx := hR
      clear hR
      gi_wp2_with fail
      refine hJx.mono ?_
      rintro e W3 ⟨_, ⟨rfl, hJ3, hk3⟩ | ⟨rfl, hJx3⟩⟩
      · gi_wp2_with fail
        go_roundw
        case rel => exact ⟨i + 1, by omega, by go_num, by rw [HT.out]; exact hJ3⟩
        case measure => simp [intOf]; omega
      · gi_wp2_with fail
        refine bodyPost_ret (results_none rfl _ _ _) rfl ?_
        exact ⟨⟨_, rfl⟩, .inr ⟨_, by rw [← HT.out]; exact List.take_prefix _ _, hJx3⟩⟩
    · have hz : fldT k i = 0 := by unfold fldT; rw [List.getElem?_eq_none (by omega)]; rfl
      rw [hz] at hix
      have HJs : Hid (J (fieldsT k) wr) := Lib.hid (by rw [List.take_of_length_le (by omega)] at hJs; exact hJs)
      clear hJs
      gi_wp2_with fail
      refine ⟨fun f h => (by cases h), ?_⟩
      gi_wp2_with fail
      refine bodyPost_ret (results_none rfl _ _ _) rfl ?_
      exact ⟨⟨_, rfl⟩, .inl ⟨_, rfl, HJs.out⟩⟩

end Go.Proofs.YtkfnjpmigifomaaDoor
