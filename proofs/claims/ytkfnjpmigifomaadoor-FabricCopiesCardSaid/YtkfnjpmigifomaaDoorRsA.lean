/- What this text holds: the document's fields of a kind, and which may be. No condition. What this text holds: has a kind some field: Has of the document. No condition. What this text holds: the document's check of a note is the program's, in plain words. No condition. -/
import Derived.Test.YtkfnjpmigifomaaDoorPlS
namespace Go.Proofs.YtkfnjpmigifomaaDoor
open Go.RowKit

/-- A kind's fields, a letter each. -/
def fldR (k : Int) : List UInt8 := if 1 ≤ k ∧ k ≤ 13 then (([[99, 108, 119], [99, 108, 119], [99, 108, 116, 100, 120], [99, 108], [99, 108, 115, 100, 120, 98], [99, 112], [99, 110], [99, 108, 116, 103, 100], [99, 108, 98], [99, 108], [99, 108, 111], [99, 100, 112], [99, 110]] : List (List UInt8))[k.toNat - 1]?.getD []) else []
def mkS (l : List UInt8) : Value := .string ⟨l.toArray⟩
set_option maxRecDepth 100000 in
set_option maxHeartbeats 8000000 in
theorem rfields_any (k : Int) (w : World) : Calls Tryd.prog 105 #[.int .i64 k] w fun e w' => e = .returned (mkS (fldR k)) ∧ Below w.heap.size w w' := by
  by_cases h1 : k < 1
  · have e1 : decide (k < 1) = true := by simpa using h1
    have HF := Lib.hid (show fldR k = [] by unfold fldR; rw [if_neg (by omega)])
    clear h1
    go_enter Tryd.func105, Tryd.ntmps105
    go_wp2_with fail
    go_ret
    exact ⟨by rw [HF.out]; rfl, Below.refl _ _⟩
  · have e1 : decide (k < 1) = false := by simpa using h1
    by_cases h2 : k > 13
    · have e2 : decide (k > 13) = true := by simpa using h2
      have HF := Lib.hid (show fldR k = [] by unfold fldR; rw [if_neg (by omega)])
      clear h1 h2
      go_enter Tryd.func105, Tryd.ntmps105
      go_wp2_with fail
      go_ret
      exact ⟨by rw [HF.out]; rfl, Below.refl _ _⟩
    · have h3 : k = 1 ∨ k = 2 ∨ k = 3 ∨ k = 4 ∨ k = 5 ∨ k = 6 ∨ k = 7 ∨ k = 8 ∨ k = 9 ∨ k = 10 ∨ k = 11 ∨ k = 12 ∨ k = 13 := by omega
      clear h1 h2 e1
      rcases h3 with rfl | rfl | rfl | rfl | rfl | rfl | rfl | rfl | rfl | rfl | rfl | rfl | rfl
      all_goals
        go_enter Tryd.func105, Tryd.ntmps105
        go_wp2_with fail
        go_ret
        exact ⟨rfl, (by repeat (with_reducible first | exact Below.refl _ _ | assumption | (refine ext_next (by assumption) ?_) | apply ext_alloc | apply ext_past | apply ext_drew | apply ext_drewN))⟩
theorem within_any (n a b : Int) (w : World) : Calls Tryd.prog 110 #[.int .i64 n, .int .i64 a, .int .i64 b] w fun e w' => e = .returned (.bool (decide (a ≤ n) && decide (n ≤ b))) ∧ w' = w := by
  by_cases h1 : a ≤ n
  · have e1 : decide (n ≥ a) = true := by simpa using h1
    have e2 : decide (a ≤ n) = true := by simpa using h1
    go_enter Tryd.func110, Tryd.ntmps110
    go_wp2_with fail
    go_ret
    exact ⟨ret_bool (by simp [h1]), rfl⟩
  · have e1 : decide (n ≥ a) = false := by simpa using h1
    have e2 : decide (a ≤ n) = false := by simpa using h1
    go_enter Tryd.func110, Tryd.ntmps110
    go_wp2_with fail
    go_ret
    exact ⟨rfl, rfl⟩
/-- May a field be? -/
def rightP (co gr : Int) (x : Nt) (f : UInt8) : Bool :=
  if f = 99 then decide (0 ≤ x.c) && decide (x.c ≤ co - 1)
  else if f = 108 then decide (0 ≤ x.l) && decide (x.l ≤ 2 * gr - 1)
  else if f = 119 then decide (0 ≤ x.w) && decide (x.w ≤ 3)
  else if f = 116 then decide (0 ≤ x.w) && decide (x.w ≤ 4)
  else if f = 115 then decide (0 ≤ x.s) && decide (x.s ≤ 4)
  else if f = 103 then (x.s == 1) || (x.s == 2) || (x.s == 4)
  else if f = 111 then (x.s == 0) || (x.s == 1)
  else if f = 112 then decide (0 ≤ x.n) && decide (x.n ≤ 19)
  else if f = 110 then decide (0 ≤ x.n) && decide (x.n ≤ gr - 1)
  else if f = 98 then (x.n == 0) || (x.n == 1)
  else true
set_option maxRecDepth 100000 in
set_option maxHeartbeats 8000000 in
theorem rright_any (co gr : Int) (hc : 0 ≤ co ∧ co ≤ 100) (hg : 0 ≤ gr ∧ gr ≤ 100) (x : Nt) (f : UInt8) (hf : f ∈ ([99, 108, 119, 116, 115, 103, 111, 112, 110, 98, 100, 120] : List UInt8)) (w : World) :
    Calls Tryd.prog 106 #[.agg #[.int .i64 co, .int .i64 gr], x.val, .int .u8 f.toNat] w fun e w' => e = .returned (.bool (rightP co gr x f)) ∧ Below w.heap.size w w' := by
  obtain ⟨xk, xc, xl, xw, xs, xa, xb, xd, xn⟩ := x
  unfold Nt.val
  dsimp only
  obtain ⟨hc1, hc2⟩ := hc
  obtain ⟨hg1, hg2⟩ := hg
  simp only [List.mem_cons, List.not_mem_nil, or_false] at hf
  rcases hf with rfl | rfl | rfl | rfl | rfl | rfl | rfl | rfl | rfl | rfl | rfl | rfl
  iterate 5
    · go_enter Tryd.func106, Tryd.ntmps106
      go_wp2_with fail
      refine (within_any _ _ _ _).mono ?_
      rintro e w1 ⟨rfl, hw⟩
      subst hw
      go_wp2_with fail
      go_ret
      exact ⟨rfl, (by repeat (with_reducible first | exact Below.refl _ _ | assumption | (refine ext_next (by assumption) ?_) | apply ext_alloc | apply ext_past | apply ext_drew | apply ext_drewN))⟩
  case inr.inr.inr.inr.inr.inl =>
    by_cases a1 : xs = 1
    · subst a1
      go_enter Tryd.func106, Tryd.ntmps106
      go_wp2_with fail
      go_ret
      exact ⟨rfl, (by repeat (with_reducible first | exact Below.refl _ _ | assumption | (refine ext_next (by assumption) ?_) | apply ext_alloc | apply ext_past | apply ext_drew | apply ext_drewN))⟩
    have e1 : (xs == 1) = false := by simpa using a1
    by_cases a2 : xs = 2
    · subst a2
      go_enter Tryd.func106, Tryd.ntmps106
      go_wp2_with fail
      go_ret
      exact ⟨rfl, (by repeat (with_reducible first | exact Below.refl _ _ | assumption | (refine ext_next (by assumption) ?_) | apply ext_alloc | apply ext_past | apply ext_drew | apply ext_drewN))⟩
    have e2 : (xs == 2) = false := by simpa using a2
    have HE := Lib.hid (show rightP co gr ⟨xk, xc, xl, xw, xs, xa, xb, xd, xn⟩ 103 = (xs == 4) by simp [rightP, e1, e2])
    clear a1 a2
    go_enter Tryd.func106, Tryd.ntmps106
    go_wp2_with fail
    go_ret
    exact ⟨ret_bool HE.out.symm, (by repeat (with_reducible first | exact Below.refl _ _ | assumption | (refine ext_next (by assumption) ?_) | apply ext_alloc | apply ext_past | apply ext_drew | apply ext_drewN))⟩
  case inr.inr.inr.inr.inr.inr.inl =>
    by_cases a1 : xs = 0
    · subst a1
      go_enter Tryd.func106, Tryd.ntmps106
      go_wp2_with fail
      go_ret
      exact ⟨rfl, (by repeat (with_reducible first | exact Below.refl _ _ | assumption | (refine ext_next (by assumption) ?_) | apply ext_alloc | apply ext_past | apply ext_drew | apply ext_drewN))⟩
    have e1 : (xs == 0) = false := by simpa using a1
    have HE := Lib.hid (show rightP co gr ⟨xk, xc, xl, xw, xs, xa, xb, xd, xn⟩ 111 = (xs == 1) by simp [rightP, e1])
    clear a1
    go_enter Tryd.func106, Tryd.ntmps106
    go_wp2_with fail
    go_ret
    exact ⟨ret_bool HE.out.symm, (by repeat (with_reducible first | exact Below.refl _ _ | assumption | (refine ext_next (by assumption) ?_) | apply ext_alloc | apply ext_past | apply ext_drew | apply ext_drewN))⟩
  iterate 2
    · go_enter Tryd.func106, Tryd.ntmps106
      go_wp2_with fail
      refine (within_any _ _ _ _).mono ?_
      rintro e w1 ⟨rfl, hw⟩
      subst hw
      go_wp2_with fail
      go_ret
      exact ⟨rfl, (by repeat (with_reducible first | exact Below.refl _ _ | assumption | (refine ext_next (by assumption) ?_) | apply ext_alloc | apply ext_past | apply ext_drew | apply ext_drewN))⟩
  · by_cases a1 : xn = 0
    · subst a1
      go_enter Tryd.func106, Tryd.ntmps106
      go_wp2_with fail
      go_ret
      exact ⟨rfl, (by repeat (with_reducible first | exact Below.refl _ _ | assumption | (refine ext_next (by assumption) ?_) | apply ext_alloc | apply ext_past | apply ext_drew | apply ext_drewN))⟩
    have e1 : (xn == 0) = false := by simpa using a1
    have HE := Lib.hid (show rightP co gr ⟨xk, xc, xl, xw, xs, xa, xb, xd, xn⟩ 98 = (xn == 1) by simp [rightP, e1])
    clear a1
    go_enter Tryd.func106, Tryd.ntmps106
    go_wp2_with fail
    go_ret
    exact ⟨ret_bool HE.out.symm, (by repeat (with_reducible first | exact Below.refl _ _ | assumption | (refine ext_next (by assumption) ?_) | apply ext_alloc | apply ext_past | apply ext_drew | apply ext_drewN))⟩
  all_goals
    go_enter Tryd.func106, Tryd.ntmps106
    go_wp2_with fail
    go_ret
    exact ⟨rfl, (by repeat (with_reducible first | exact Below.refl _ _ | assumption | (refine ext_next (by assumption) ?_) | apply ext_alloc | apply ext_past | apply ext_drew | apply ext_drewN))⟩

end Go.Proofs.YtkfnjpmigifomaaDoor
namespace Go.Proofs.YtkfnjpmigifomaaDoor
open Go.RowKit

theorem fldR_len (k : Int) : (fldR k).length ≤ 7 := by
  unfold fldR
  split
  · rename_i h
    have h3 : k = 1 ∨ k = 2 ∨ k = 3 ∨ k = 4 ∨ k = 5 ∨ k = 6 ∨ k = 7 ∨ k = 8 ∨ k = 9 ∨ k = 10 ∨ k = 11 ∨ k = 12 ∨ k = 13 := by omega
    rcases h3 with rfl | rfl | rfl | rfl | rfl | rfl | rfl | rfl | rfl | rfl | rfl | rfl | rfl <;> decide
  · simp
/-- Has a kind any of some fields? -/
def hasR (k : Int) (l : List UInt8) : Bool := (fldR k).any fun c => l.any fun d => c == d
theorem str_size (l : List UInt8) : (⟨l.toArray⟩ : ByteArray).size = l.length := by simp [ByteArray.size]
theorem str_at (l : List UInt8) (i : Nat) (h : i < l.length) (w : World) : (Instr.index 9 (.string ⟨l.toArray⟩) (.int .i64 i)).run Tryd.prog w = .ok (.int .u8 (l[i]).toNat) w := by
  rw [run_index_string (P := Tryd.prog) w 9 _ _ _ (by kernel_rfl), dif_pos (by rw [str_size]; omega)]
  rfl
theorem any_take {l : List UInt8} (p : UInt8 → Bool) {j : Nat} (h : j < l.length) : (l.take (j + 1)).any p = ((l.take j).any p || p l[j]) := by
  rw [List.take_succ_eq_append_getElem h, List.any_append]
  simp
set_option maxRecDepth 100000 in
set_option maxHeartbeats 4000000 in
theorem rhas_any (k : Int) (l : List UInt8) (hl : l.length ≤ 10) (w : World) : Calls Tryd.prog 107 #[.int .i64 k, mkS l] w fun e w' => e = .returned (.bool (hasR k l)) ∧ Below w.heap.size w w' := by
  obtain ⟨f, hf⟩ : ∃ f, f = fldR k := ⟨_, rfl⟩
  have hfl := fldR_len k
  have HFI := Lib.hid (fun (W : World) => rfields_any k W)
  rw [← hf] at HFI hfl
  have HA : Hid (hasR k l = f.any fun c => l.any fun d => c == d) := Lib.hid (by unfold hasR; rw [hf])
  obtain ⟨s, hs⟩ : ∃ s : ByteArray, s = ⟨f.toArray⟩ := ⟨_, rfl⟩
  obtain ⟨t, ht⟩ : ∃ t : ByteArray, t = ⟨l.toArray⟩ := ⟨_, rfl⟩
  have hss : s.size = f.length := by rw [hs, str_size]
  have hts : t.size = l.length := by rw [ht, str_size]
  have HSI := Lib.hid (fun (i : Nat) (h : i < f.length) => str_at f i h)
  have HTI := Lib.hid (fun (i : Nat) (h : i < l.length) => str_at l i h)
  rw [← hs] at HSI
  rw [← ht] at HTI
  unfold mkS at *
  rw [← hs] at HFI
  rw [← ht]
  clear hs ht hf
  go_enter Tryd.func107, Tryd.ntmps107
  go_wp2_with fail
  refine (HFI.out _).mono ?_
  rintro e w1 ⟨rfl, hb⟩
  have HB := Lib.hid hb
  clear hb HFI
  go_wp2_with fail
  go_loopg [6] f.length (fun g s6 wr => ∃ i : Nat, s6 = .int .i64 i ∧ i + g = f.length ∧ Hid (Below w.heap.size w wr) ∧ Hid (((f.take i).any fun c => l.any fun d => c == d) = false))
  case atStart => exact ⟨0, rfl, by omega, HB, Lib.hid rfl⟩
  case round =>
    obtain ⟨i, rfl, hi, HR, HN⟩ := hrel
    by_cases hlt : i < f.length
    · have ek : decide ((i : Int) < (f.length : Int)) = true := by simp; omega
      have ek2 : decide (i < f.length) = true := by simpa using hlt
      have HI := Lib.hid (And.intro hi hlt)
      have hsi := HSI.out i hlt
      have hif : (i : Int) < (f.length : Int) := by omega
      obtain ⟨a, ha⟩ : ∃ a : Int, a = ((f[i]).toNat : Int) := ⟨_, rfl⟩
      rw [← ha] at hsi
      have HAA := Lib.hid ha
      clear hi ha
      go_wp2_with fail
      go_loopg [7] l.length (fun g s7 wr => ∃ j : Nat, s7 = .int .i64 j ∧ j + g = l.length ∧ Hid (Below w.heap.size w wr) ∧ Hid (((l.take j).any fun d => f[i] == d) = false))
      case atStart => exact ⟨0, rfl, by omega, HR, Lib.hid rfl⟩
      case round =>
        clear HR
        obtain ⟨j, rfl, hj, HR, HM⟩ := hrel
        by_cases hjl : j < l.length
        · have ej : decide ((j : Int) < (l.length : Int)) = true := by simp; omega
          have ej2 : decide (j < l.length) = true := by simpa using hjl
          have HJ := Lib.hid (And.intro hj hjl)
          have hti := HTI.out j hjl
          have hjf : (j : Int) < (l.length : Int) := by omega
          obtain ⟨b, hbb⟩ : ∃ b : Int, b = ((l[j]).toNat : Int) := ⟨_, rfl⟩
          rw [← hbb] at hti
          have HBB := Lib.hid hbb
          clear hj hbb
          by_cases hab : a = b
          · have eab : (a == b) = true := by simpa using hab
            have HAB := Lib.hid hab
            clear hab
            go_wp2_with fail
            go_region
            go_wp2_with fail
            go_ret
            refine ⟨ret_bool ?_, ext_drew HR.out⟩
            rw [HA.out]
            refine (List.any_eq_true.2 ⟨f[i], List.getElem_mem hlt, List.any_eq_true.2 ⟨l[j], List.getElem_mem hjl, ?_⟩⟩).symm
            have h9 := HAB.out
            rw [HAA.out, HBB.out] at h9
            have h8 : f[i] = l[j] := UInt8.toNat_inj.1 (by omega)
            rw [h8]
            simp
          · have eab : (a == b) = false := by simpa using hab
            have HAB := Lib.hid hab
            clear hab
            go_wp2_with fail
            go_region
            go_wp2_with fail
            go_roundg (l.length - (j + 1))
            case measure => have := HJ.out; omega
            case rel =>
              refine ⟨j + 1, by go_num, by have := HJ.out; omega, Lib.hid (ext_drew HR.out), Lib.hid ?_⟩
              rw [any_take _ hjl, HM.out, Bool.false_or]
              refine beq_eq_false_iff_ne.2 (fun e => HAB.out ?_)
              rw [HAA.out, HBB.out, e]
        · have ej : decide ((j : Int) < (l.length : Int)) = false := by simp; omega
          have ej2 : decide (j < l.length) = false := by simpa using hjl
          go_wp2_with fail
          go_roundg (f.length - (i + 1))
          case measure => have := HI.out; omega
          case rel =>
            refine ⟨i + 1, by go_num, by have := HI.out; omega, HR, Lib.hid ?_⟩
            rw [any_take _ hlt, HN.out, Bool.false_or]
            have h9 := HM.out
            rw [List.take_of_length_le (by omega)] at h9
            exact h9
    · have ek : decide ((i : Int) < (f.length : Int)) = false := by simp; omega
      have ek2 : decide (i < f.length) = false := by simpa using hlt
      go_wp2_with fail
      go_ret
      refine ⟨ret_bool ?_, HR.out⟩
      rw [HA.out]
      have h9 := HN.out
      rw [List.take_of_length_le (by omega)] at h9
      exact h9.symm

end Go.Proofs.YtkfnjpmigifomaaDoor
namespace Go.Proofs.YtkfnjpmigifomaaDoor

def bad1 (x : Nt) : Bool := (!hasR x.k [108] && !(x.l == 0)) || (!hasR x.k [119, 116] && !(x.w == 0)) || (!hasR x.k [115, 103, 111] && !(x.s == 0))
def bad2 (x : Nt) : Bool := (!hasR x.k [100] && (!(x.a == 0) || !(x.b == 0))) || (!hasR x.k [120] && x.d) || (!hasR x.k [112, 110, 98] && !(x.n == 0))
/-- What is wrong with a note, as the document says it. -/
def chk3 (co gr : Int) (x : Nt) : Int := if fldR x.k = [] then 15 else if (fldR x.k).all (rightP co gr x) && !(bad1 x || bad2 x) then 0 else 10
theorem kind_cases {k : Int} (h : kindB k = true) : k = 1 ∨ k = 2 ∨ k = 3 ∨ k = 4 ∨ k = 5 ∨ k = 6 ∨ k = 7 ∨ k = 8 ∨ k = 9 ∨ k = 10 ∨ k = 11 ∨ k = 12 ∨ k = 13 := by
  simp [kindB] at h
  omega
theorem fldR_nil {k : Int} : fldR k = [] ↔ kindB k = false := by
  by_cases h : kindB k = true
  · rcases kind_cases h with rfl | rfl | rfl | rfl | rfl | rfl | rfl | rfl | rfl | rfl | rfl | rfl | rfl <;> decide
  · have h2 : kindB k = false := by simpa using h
    rw [h2]
    simp only [iff_true]
    unfold fldR
    simp [kindB] at h
    rw [if_neg (by omega)]
/-- Which fields a kind has. -/
theorem has_cases {k : Int} (h : kindB k = true) :
    (hasR k [108] = true ∧ hasR k [119, 116] = true ∧ hasR k [115, 103, 111] = false ∧ hasR k [100] = false ∧ hasR k [120] = false ∧ hasR k [112, 110, 98] = false) ∨
    (hasR k [108] = true ∧ hasR k [119, 116] = true ∧ hasR k [115, 103, 111] = false ∧ hasR k [100] = true ∧ hasR k [120] = true ∧ hasR k [112, 110, 98] = false) ∨
    (hasR k [108] = true ∧ hasR k [119, 116] = false ∧ hasR k [115, 103, 111] = false ∧ hasR k [100] = false ∧ hasR k [120] = false ∧ hasR k [112, 110, 98] = false) ∨
    (hasR k [108] = true ∧ hasR k [119, 116] = false ∧ hasR k [115, 103, 111] = true ∧ hasR k [100] = true ∧ hasR k [120] = true ∧ hasR k [112, 110, 98] = true) ∨
    (hasR k [108] = false ∧ hasR k [119, 116] = false ∧ hasR k [115, 103, 111] = false ∧ hasR k [100] = false ∧ hasR k [120] = false ∧ hasR k [112, 110, 98] = true) ∨
    (hasR k [108] = true ∧ hasR k [119, 116] = true ∧ hasR k [115, 103, 111] = true ∧ hasR k [100] = true ∧ hasR k [120] = false ∧ hasR k [112, 110, 98] = false) ∨
    (hasR k [108] = true ∧ hasR k [119, 116] = false ∧ hasR k [115, 103, 111] = false ∧ hasR k [100] = false ∧ hasR k [120] = false ∧ hasR k [112, 110, 98] = true) ∨
    (hasR k [108] = true ∧ hasR k [119, 116] = false ∧ hasR k [115, 103, 111] = true ∧ hasR k [100] = false ∧ hasR k [120] = false ∧ hasR k [112, 110, 98] = false) ∨
    (hasR k [108] = false ∧ hasR k [119, 116] = false ∧ hasR k [115, 103, 111] = false ∧ hasR k [100] = true ∧ hasR k [120] = false ∧ hasR k [112, 110, 98] = true) := by
  rcases kind_cases h with rfl | rfl | rfl | rfl | rfl | rfl | rfl | rfl | rfl | rfl | rfl | rfl | rfl <;> decide
set_option maxHeartbeats 4000000 in
theorem chk3_eq (c : Cfg) (x : Nt) : chk3 c.co c.gr x = chkN c x := by
  unfold chk3 chkN
  by_cases h : kindB x.k = true
  · rw [if_neg (fun e => by rw [fldR_nil] at e; rw [e] at h; cases h), if_pos h]
    have e : ((fldR x.k).all (rightP c.co c.gr x) && !(bad1 x || bad2 x)) = (allF c x (fieldsT x.k.toNat) && decide (hasF x (fieldsT x.k.toNat) = x)) := by
      obtain ⟨xk, xc, xl, xw, xs, xa, xb, xd, xn⟩ := x
      dsimp only at *
      rw [Bool.eq_iff_iff]
      rcases kind_cases h with rfl | rfl | rfl | rfl | rfl | rfl | rfl | rfl | rfl | rfl | rfl | rfl | rfl
      all_goals
        cases xd <;> simp [fldR, fieldsT, allF, mayF, getF, hasF, setF, hasR, rightP, bad1, bad2] <;> omega
    rw [e]
  · have h2 : kindB x.k = false := by simpa using h
    rw [if_pos (fldR_nil.2 h2), if_neg h]

end Go.Proofs.YtkfnjpmigifomaaDoor
