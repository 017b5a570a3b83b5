/- What this text holds: the law AtomApart, walked. Conditions: the tables of limits and of ops hold what their initialisers lay. -/
import Derived.Test.YtkobeajbiendlaaDoorL11J
namespace Go.Proofs.YtkobeajbiendlaaDoor
open Go.RowKit

section
variable (c : Cfg) (A B C D E F : Option Addr) (l : List Pr) (ws os ds oth : List Int) (c1 c2 c3 c4 c5 c6 : Nat) (tl : List (Int × Bool)) (w : World)
set_option maxRecDepth 100000 in
set_option maxHeartbeats 8000000 in
theorem ka_few (hL : Lims w) (hO : Ops w) (hA : SlR w A l) (hm : l.length ≤ maxLen) (hB : SlI w B ws) (hC : SlI w C os) (hD : SlI w D ds) (hE : SlT w E tl) (_hF : SlI w F oth) (hfw : fewB l ws os ds = false) :
    Calls Tryd.prog 7 #[.agg #[.int .i64 c.co, .int .i64 c.gr, .int .i64 c.se, .int .i64 c.wa, .int .i64 c.de, .int .i64 c.en, .int .i64 c.ba, .slice A l.length c1, .slice B ws.length c2, .slice C os.length c3, .slice D ds.length c4], .slice F oth.length c6, .slice E tl.length c5] w fun e w' => e = .returned (.bool true) ∧ Below w.heap.size w w' := by
  have HN := Lib.hid (Wb.new c A B C D l ws os ds c1 c2 c3 c4 w)
  have HFW := fun (W : World) (hb : Below w.heap.size w W) => few_any c A B C D l ws os ds c1 c2 c3 c4 W (hA.ext hb) hm
  have HWR := fun (W : World) (hb : Below w.heap.size w W) hf => wrong_any c A B C D l ws os ds c1 c2 c3 c4 W (hA.ext hb) (hB.ext hb) (hC.ext hb) hf
  have HMD := Lib.hid (fun (W : World) (hb : Below w.heap.size w W) => amade c A B C D l ws os ds c1 c2 c3 c4 W (hL.ext hb) (hO.ext hb) (hA.ext hb) (hB.ext hb) (hC.ext hb) (hD.ext hb))
  have HAW := Lib.hid (fun (W : World) (hb : Below w.heap.size w W) => awake11 W (hL.ext hb) (hO.ext hb))
  have HL := Lib.hid hL
  have HE := Lib.hid hE
  clear hL hO hA hm hB hC hD hE
  rw [hfw] at HFW
  have HFW := Lib.hid HFW
  clear hfw HWR HMD
  go_enter Tryd.func7, Tryd.ntmps7
  obtain ⟨t0, t1, t2, t3, t4, t5, t6, t7, t8, t9, t10⟩ := eleven_at HN.out.box
  go_wp2_with fail
  refine (HFW.out _ HN.out.be).mono ?_
  rintro e w1 ⟨rfl, hb⟩
  have HN1 := Lib.hid (HN.out.ext hb)
  clear hb
  go_wp2_with fail
  refine (HAW.out _ HN1.out.be).mono ?_
  rintro e w2 ⟨rfl, hb⟩
  have HB2 := Lib.hid (ext_trans HN1.out.be hb)
  clear hb
  go_wp2_with fail
  go_ret
  exact ⟨rfl, HB2.out⟩
set_option maxRecDepth 100000 in
set_option maxHeartbeats 8000000 in
theorem ka_many (hL : Lims w) (hO : Ops w) (hA : SlR w A l) (hm : l.length ≤ maxLen) (hB : SlI w B ws) (hC : SlI w C os) (hD : SlI w D ds) (hE : SlT w E tl) (_hF : SlI w F oth) (hfw : fewB l ws os ds = true) (hn : 60 < tl.length) :
    Calls Tryd.prog 7 #[.agg #[.int .i64 c.co, .int .i64 c.gr, .int .i64 c.se, .int .i64 c.wa, .int .i64 c.de, .int .i64 c.en, .int .i64 c.ba, .slice A l.length c1, .slice B ws.length c2, .slice C os.length c3, .slice D ds.length c4], .slice F oth.length c6, .slice E tl.length c5] w fun e w' => e = .returned (.bool true) ∧ Below w.heap.size w w' := by
  have HN := Lib.hid (Wb.new c A B C D l ws os ds c1 c2 c3 c4 w)
  have HFW := fun (W : World) (hb : Below w.heap.size w W) => few_any c A B C D l ws os ds c1 c2 c3 c4 W (hA.ext hb) hm
  have HWR := fun (W : World) (hb : Below w.heap.size w W) hf => wrong_any c A B C D l ws os ds c1 c2 c3 c4 W (hA.ext hb) (hB.ext hb) (hC.ext hb) hf
  have HMD := Lib.hid (fun (W : World) (hb : Below w.heap.size w W) => amade c A B C D l ws os ds c1 c2 c3 c4 W (hL.ext hb) (hO.ext hb) (hA.ext hb) (hB.ext hb) (hC.ext hb) (hD.ext hb))
  have HAW := Lib.hid (fun (W : World) (hb : Below w.heap.size w W) => awake11 W (hL.ext hb) (hO.ext hb))
  have HL := Lib.hid hL
  have HE := Lib.hid hE
  clear hL hO hA hm hB hC hD hE
  rw [hfw] at HFW
  have HFW := Lib.hid HFW
  have HWR := Lib.hid (fun (W : World) (hb : Below w.heap.size w W) => HWR W hb (fewB_len hfw).2.2.2.2)
  clear hfw
  have en : decide ((tl.length : Int) > 60) = true := by simp; omega
  clear hn
  go_enter Tryd.func7, Tryd.ntmps7
  obtain ⟨t0, t1, t2, t3, t4, t5, t6, t7, t8, t9, t10⟩ := eleven_at HN.out.box
  go_wp2_with fail
  refine (HFW.out _ HN.out.be).mono ?_
  rintro e w1 ⟨rfl, hb⟩
  have HN1 := Lib.hid (HN.out.ext hb)
  clear hb
  go_wp2_with fail
  refine (HAW.out _ HN1.out.be).mono ?_
  rintro e w2 ⟨rfl, hb⟩
  have HB2 := Lib.hid (ext_trans HN1.out.be hb)
  clear hb
  go_wp2_with fail
  go_ret
  exact ⟨rfl, HB2.out⟩
set_option maxRecDepth 100000 in
set_option maxHeartbeats 8000000 in
theorem ka_wrong (hL : Lims w) (hO : Ops w) (hA : SlR w A l) (hm : l.length ≤ maxLen) (hB : SlI w B ws) (hC : SlI w C os) (hD : SlI w D ds) (hE : SlT w E tl) (_hF : SlI w F oth) (hfw : fewB l ws os ds = true) (hn : ¬ 60 < tl.length) (hw : newE11 c l ws os ds ≠ 0) :
    Calls Tryd.prog 7 #[.agg #[.int .i64 c.co, .int .i64 c.gr, .int .i64 c.se, .int .i64 c.wa, .int .i64 c.de, .int .i64 c.en, .int .i64 c.ba, .slice A l.length c1, .slice B ws.length c2, .slice C os.length c3, .slice D ds.length c4], .slice F oth.length c6, .slice E tl.length c5] w fun e w' => e = .returned (.bool true) ∧ Below w.heap.size w w' := by
  have HN := Lib.hid (Wb.new c A B C D l ws os ds c1 c2 c3 c4 w)
  have HFW := fun (W : World) (hb : Below w.heap.size w W) => few_any c A B C D l ws os ds c1 c2 c3 c4 W (hA.ext hb) hm
  have HWR := fun (W : World) (hb : Below w.heap.size w W) hf => wrong_any c A B C D l ws os ds c1 c2 c3 c4 W (hA.ext hb) (hB.ext hb) (hC.ext hb) hf
  have HMD := Lib.hid (fun (W : World) (hb : Below w.heap.size w W) => amade c A B C D l ws os ds c1 c2 c3 c4 W (hL.ext hb) (hO.ext hb) (hA.ext hb) (hB.ext hb) (hC.ext hb) (hD.ext hb))
  have HAW := Lib.hid (fun (W : World) (hb : Below w.heap.size w W) => awake11 W (hL.ext hb) (hO.ext hb))
  have HL := Lib.hid hL
  have HE := Lib.hid hE
  clear hL hO hA hm hB hC hD hE
  rw [hfw] at HFW
  have HFW := Lib.hid HFW
  have HWR := Lib.hid (fun (W : World) (hb : Below w.heap.size w W) => HWR W hb (fewB_len hfw).2.2.2.2)
  clear hfw
  have en : decide ((tl.length : Int) > 60) = false := by simp; omega
  have H60 := Lib.hid (show tl.length ≤ 60 by omega)
  clear hn
  have ew : (newE11 c l ws os ds != 0) = true := by simpa using hw
  clear hw HMD
  generalize newE11 c l ws os ds = nw at *
  go_enter Tryd.func7, Tryd.ntmps7
  obtain ⟨t0, t1, t2, t3, t4, t5, t6, t7, t8, t9, t10⟩ := eleven_at HN.out.box
  go_wp2_with fail
  refine (HFW.out _ HN.out.be).mono ?_
  rintro e w1 ⟨rfl, hb⟩
  have HN1 := Lib.hid (HN.out.ext hb)
  clear hb t0 t1 t2 t3 t4 t5 t6 t7 t8 t9 t10
  obtain ⟨t0, t1, t2, t3, t4, t5, t6, t7, t8, t9, t10⟩ := eleven_at HN1.out.box
  have hl1 := lt_of HN1.out.box
  go_wp2_with fail
  refine (HWR.out _ HN1.out.be).mono ?_
  rintro e w2 ⟨rfl, hb⟩
  have HN2 := Lib.hid (HN1.out.ext hb)
  clear hb t0 t1 t2 t3 t4 t5 t6 t7 t8 t9 t10 hl1
  go_wp2_with fail
  refine (HAW.out _ HN2.out.be).mono ?_
  rintro e w3 ⟨rfl, hb⟩
  have HB2 := Lib.hid (ext_trans HN2.out.be hb)
  clear hb
  go_wp2_with fail
  go_ret
  exact ⟨rfl, HB2.out⟩
set_option maxRecDepth 100000 in
set_option maxHeartbeats 8000000 in
theorem ka_len (hL : Lims w) (hO : Ops w) (hA : SlR w A l) (hm : l.length ≤ maxLen) (hB : SlI w B ws) (hC : SlI w C os) (hD : SlI w D ds) (hE : SlT w E tl) (_hF : SlI w F oth) (hfw : fewB l ws os ds = true) (hn : ¬ 60 < tl.length) (hw : newE11 c l ws os ds = 0) (hl : oth.length ≠ ds.length) :
    Calls Tryd.prog 7 #[.agg #[.int .i64 c.co, .int .i64 c.gr, .int .i64 c.se, .int .i64 c.wa, .int .i64 c.de, .int .i64 c.en, .int .i64 c.ba, .slice A l.length c1, .slice B ws.length c2, .slice C os.length c3, .slice D ds.length c4], .slice F oth.length c6, .slice E tl.length c5] w fun e w' => e = .returned (.bool true) ∧ Below w.heap.size w w' := by
  have HN := Lib.hid (Wb.new c A B C D l ws os ds c1 c2 c3 c4 w)
  have HFW := fun (W : World) (hb : Below w.heap.size w W) => few_any c A B C D l ws os ds c1 c2 c3 c4 W (hA.ext hb) hm
  have HWR := fun (W : World) (hb : Below w.heap.size w W) hf => wrong_any c A B C D l ws os ds c1 c2 c3 c4 W (hA.ext hb) (hB.ext hb) (hC.ext hb) hf
  have HMD := Lib.hid (fun (W : World) (hb : Below w.heap.size w W) => amade c A B C D l ws os ds c1 c2 c3 c4 W (hL.ext hb) (hO.ext hb) (hA.ext hb) (hB.ext hb) (hC.ext hb) (hD.ext hb))
  have HAW := Lib.hid (fun (W : World) (hb : Below w.heap.size w W) => awake11 W (hL.ext hb) (hO.ext hb))
  have HL := Lib.hid hL
  have HE := Lib.hid hE
  clear hL hO hA hm hB hC hD hE
  rw [hfw] at HFW
  have HFW := Lib.hid HFW
  have HWR := Lib.hid (fun (W : World) (hb : Below w.heap.size w W) => HWR W hb (fewB_len hfw).2.2.2.2)
  clear hfw
  have en : decide ((tl.length : Int) > 60) = false := by simp; omega
  have H60 := Lib.hid (show tl.length ≤ 60 by omega)
  clear hn
  have HWR := HWR.out
  rw [hw] at HWR
  have HWR := Lib.hid HWR
  have HW := Lib.hid hw
  clear hw
  clear HMD
  have el : ((oth.length : Int) == (ds.length : Int)) = false := by simp; omega
  have el2 : (oth.length == ds.length) = false := by simpa using hl
  clear hl
  go_enter Tryd.func7, Tryd.ntmps7
  obtain ⟨t0, t1, t2, t3, t4, t5, t6, t7, t8, t9, t10⟩ := eleven_at HN.out.box
  go_wp2_with fail
  refine (HFW.out _ HN.out.be).mono ?_
  rintro e w1 ⟨rfl, hb⟩
  have HN1 := Lib.hid (HN.out.ext hb)
  clear hb t0 t1 t2 t3 t4 t5 t6 t7 t8 t9 t10
  obtain ⟨t0, t1, t2, t3, t4, t5, t6, t7, t8, t9, t10⟩ := eleven_at HN1.out.box
  have hl1 := lt_of HN1.out.box
  go_wp2_with fail
  refine (HWR.out _ HN1.out.be).mono ?_
  rintro e w2 ⟨rfl, hb⟩
  have HN2 := Lib.hid (HN1.out.ext hb)
  clear hb t0 t1 t2 t3 t4 t5 t6 t7 t8 t9 t10 hl1
  obtain ⟨t0, t1, t2, t3, t4, t5, t6, t7, t8, t9, t10⟩ := eleven_at HN2.out.box
  have hl1 := lt_of HN2.out.box
  go_wp2_with fail
  refine (HAW.out _ HN2.out.be).mono ?_
  rintro e w3 ⟨rfl, hb⟩
  have HB2 := Lib.hid (ext_trans HN2.out.be hb)
  clear hb
  go_wp2_with fail
  go_ret
  exact ⟨rfl, HB2.out⟩
set_option maxRecDepth 100000 in
set_option maxHeartbeats 8000000 in
theorem ka_main (hL : Lims w) (hO : Ops w) (hA : SlR w A l) (hm : l.length ≤ maxLen) (hB : SlI w B ws) (hC : SlI w C os) (hD : SlI w D ds) (hE : SlT w E tl) (hF : SlI w F oth) (hfw : fewB l ws os ds = true) (hn : ¬ 60 < tl.length) (hw : newE11 c l ws os ds = 0) (hl : oth.length = ds.length) :
    Calls Tryd.prog 7 #[.agg #[.int .i64 c.co, .int .i64 c.gr, .int .i64 c.se, .int .i64 c.wa, .int .i64 c.de, .int .i64 c.en, .int .i64 c.ba, .slice A l.length c1, .slice B ws.length c2, .slice C os.length c3, .slice D ds.length c4], .slice F oth.length c6, .slice E tl.length c5] w fun e w' => e = .returned (.bool true) ∧ Below w.heap.size w w' := by
  have HN := Lib.hid (Wb.new c A B C D l ws os ds c1 c2 c3 c4 w)
  have HFW := fun (W : World) (hb : Below w.heap.size w W) => few_any c A B C D l ws os ds c1 c2 c3 c4 W (hA.ext hb) hm
  have HWR := fun (W : World) (hb : Below w.heap.size w W) hf => wrong_any c A B C D l ws os ds c1 c2 c3 c4 W (hA.ext hb) (hB.ext hb) (hC.ext hb) hf
  have HMD := Lib.hid (fun (W : World) (hb : Below w.heap.size w W) => amade c A B C D l ws os ds c1 c2 c3 c4 W (hL.ext hb) (hO.ext hb) (hA.ext hb) (hB.ext hb) (hC.ext hb) (hD.ext hb))
  have HAW := Lib.hid (fun (W : World) (hb : Below w.heap.size w W) => awake11 W (hL.ext hb) (hO.ext hb))
  have HL := Lib.hid hL
  have HE := Lib.hid hE
  have HO9 := Lib.hid hO
  have HA9 := Lib.hid hA
  have HB9 := Lib.hid hB
  have HC9 := Lib.hid hC
  have HD9 := Lib.hid hD
  have HF9 := Lib.hid hF
  have HF4 := Lib.hid (show ds.length = 4 * os.length ∧ ds.length ≤ 80 from by
    have h1 := fewB_len hfw
    refine ⟨?_, h1.2.2.2.1⟩
    unfold newE11 at hw
    split at hw
    · cases hw
    split at hw
    · cases hw
    · omega)
  clear hL hO hA hm hB hC hD hE hF HMD
  rw [hfw] at HFW
  have HFW := Lib.hid HFW
  have HWR := Lib.hid (fun (W : World) (hb : Below w.heap.size w W) => HWR W hb (fewB_len hfw).2.2.2.2)
  clear hfw
  have en : decide ((tl.length : Int) > 60) = false := by simp; omega
  have H60 := Lib.hid (show tl.length ≤ 60 by omega)
  clear hn
  have HWR := HWR.out
  rw [hw] at HWR
  have HWR := Lib.hid HWR
  have HW := Lib.hid hw
  clear hw
  have HLN := Lib.hid (show oth.length = ds.length ∧ ds.length ≤ 80 ∧ ds.length = 4 * os.length from ⟨hl, HF4.out.2, HF4.out.1⟩)
  have hl' : (oth.length : Int) = (ds.length : Int) := by omega
  have el : ((oth.length : Int) == (ds.length : Int)) = true := by rw [beq_iff_eq]; exact hl'
  clear hl hl'
  go_enter Tryd.func7, Tryd.ntmps7
  obtain ⟨t0, t1, t2, t3, t4, t5, t6, t7, t8, t9, t10⟩ := eleven_at HN.out.box
  go_wp2_with fail
  refine (HFW.out _ HN.out.be).mono ?_
  rintro e w1 ⟨rfl, hb⟩
  have HN1 := Lib.hid (HN.out.ext hb)
  clear hb t0 t1 t2 t3 t4 t5 t6 t7 t8 t9 t10
  obtain ⟨t0, t1, t2, t3, t4, t5, t6, t7, t8, t9, t10⟩ := eleven_at HN1.out.box
  have hl1 := lt_of HN1.out.box
  go_wp2_with fail
  refine (HWR.out _ HN1.out.be).mono ?_
  rintro e w2 ⟨rfl, hb⟩
  have HN2 := Lib.hid (HN1.out.ext hb)
  clear hb t0 t1 t2 t3 t4 t5 t6 t7 t8 t9 t10 hl1
  obtain ⟨t0, t1, t2, t3, t4, t5, t6, t7, t8, t9, t10⟩ := eleven_at HN2.out.box
  have hl1 := lt_of HN2.out.box
  go_wp2_with fail
  clear t0 t1 t2 t3 t4 t5 t6 t7 t8 t9 t10 hl1
  go_loopg [7] 3 (fun n s7 wr => ∃ k : Nat, s7 = .int .i64 k ∧ 1 ≤ k ∧ k + n = 4 ∧ Hid (Wb w wr w.heap.size c A B C D l ws os ds c1 c2 c3 c4))
  case atStart => exact ⟨1, rfl, by omega, rfl, HN2⟩
  case round =>
    obtain ⟨k, rfl, hk1, hk, HWB⟩ := hrel
    by_cases hlt : k < 4
    · exact kq_round HL HO9 HA9 HB9 HC9 HD9 HE HF9 HW HLN H60 HWB hk1 hk hlt (by assumption) (by assumption)
    · have e1 : decide ((k : Int) ≤ 3) = false := by simp; omega
      have e2 : decide (k ≤ 3) = false := by simp; omega
      clear hk1 hk hlt
      go_wp2_with fail
      refine (HAW.out _ HWB.out.be).mono ?_
      rintro e w3 ⟨rfl, hb⟩
      have HB2 := Lib.hid (ext_trans HWB.out.be hb)
      clear hb
      go_wp2_with fail
      go_ret
      exact ⟨rfl, HB2.out⟩
theorem atomapart (hL : Lims w) (hO : Ops w) (hA : SlR w A l) (hm : l.length ≤ maxLen) (hB : SlI w B ws) (hC : SlI w C os) (hD : SlI w D ds) (hE : SlT w E tl) (hF : SlI w F oth) :
    Calls Tryd.prog 7 #[.agg #[.int .i64 c.co, .int .i64 c.gr, .int .i64 c.se, .int .i64 c.wa, .int .i64 c.de, .int .i64 c.en, .int .i64 c.ba, .slice A l.length c1, .slice B ws.length c2, .slice C os.length c3, .slice D ds.length c4], .slice F oth.length c6, .slice E tl.length c5] w fun e w' => e = .returned (.bool true) ∧ Below w.heap.size w w' := by
  cases hfw : fewB l ws os ds
  · exact ka_few c A B C D E F l ws os ds oth c1 c2 c3 c4 c5 c6 tl w hL hO hA hm hB hC hD hE hF hfw
  by_cases hn : 60 < tl.length
  · exact ka_many c A B C D E F l ws os ds oth c1 c2 c3 c4 c5 c6 tl w hL hO hA hm hB hC hD hE hF hfw hn
  by_cases hw : newE11 c l ws os ds = 0
  · by_cases hl : oth.length = ds.length
    · exact ka_main c A B C D E F l ws os ds oth c1 c2 c3 c4 c5 c6 tl w hL hO hA hm hB hC hD hE hF hfw hn hw hl
    · exact ka_len c A B C D E F l ws os ds oth c1 c2 c3 c4 c5 c6 tl w hL hO hA hm hB hC hD hE hF hfw hn hw hl
  · exact ka_wrong c A B C D E F l ws os ds oth c1 c2 c3 c4 c5 c6 tl w hL hO hA hm hB hC hD hE hF hfw hn hw
end
end Go.Proofs.YtkobeajbiendlaaDoor
