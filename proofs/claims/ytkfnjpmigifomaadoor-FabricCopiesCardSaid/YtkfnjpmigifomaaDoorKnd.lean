/- What this text holds: the table of kinds of notes; which lane a kind has. Condition: the table of kinds holds what its initialiser lays. -/
import Derived.Test.YtkfnjpmigifomaaDoorRst
import Derived.Test.YtkfnjpmigifomaaDoorLanT
namespace Go.Proofs.YtkfnjpmigifomaaDoor
open Go.RowKit Go.Shelf
attribute [local go_sem] Oper.semAt_some

/-- The table of kinds, as its initialiser lays it. -/
def Kinds (w : World) : Prop := ∃ t fr, w.heap[(2 : Nat)]? = some (.cells #[.string ⟨#[]⟩, .int .i64 0, .int .i64 0, .int .i64 0, .int .i64 0, .int .i64 0, .int .i64 0, .int .i64 0, .int .i64 0, .string ⟨#[103, 101, 116, 115]⟩, .int .i64 0, .int .i64 1, .int .i64 2, .int .i64 3, .int .i64 0, .int .i64 0, .int .i64 0, .int .i64 0, .string ⟨#[103, 101, 116, 109]⟩, .int .i64 0, .int .i64 1, .int .i64 2, .int .i64 3, .int .i64 0, .int .i64 0, .int .i64 0, .int .i64 0, .string ⟨#[112, 117, 116]⟩, .int .i64 0, .int .i64 1, .int .i64 2, .int .i64 4, .int .i64 8, .int .i64 9, .int .i64 10, .int .i64 0, .string ⟨#[100, 111, 110, 101]⟩, .int .i64 1, .int .i64 1, .int .i64 2, .int .i64 0, .int .i64 0, .int .i64 0, .int .i64 0, .int .i64 0, .string ⟨#[114, 101, 112, 108, 121]⟩, .int .i64 1, .int .i64 1, .int .i64 2, .int .i64 5, .int .i64 8, .int .i64 9, .int .i64 10, .int .i64 11, .string ⟨#[119, 97, 108, 107]⟩, .int .i64 0, .int .i64 1, .int .i64 12, .int .i64 0, .int .i64 0, .int .i64 0, .int .i64 0, .int .i64 0, .string ⟨#[100, 114, 111, 112, 112, 101, 100]⟩, .int .i64 1, .int .i64 1, .int .i64 13, .int .i64 0, .int .i64 0, .int .i64 0, .int .i64 0, .int .i64 0, .string ⟨#[103, 114, 97, 110, 116]⟩, .int .i64 2, .int .i64 1, .int .i64 2, .int .i64 4, .int .i64 6, .int .i64 8, .int .i64 9, .int .i64 0, .string ⟨#[110, 97, 99, 107]⟩, .int .i64 2, .int .i64 1, .int .i64 2, .int .i64 11, .int .i64 0, .int .i64 0, .int .i64 0, .int .i64 0, .string ⟨#[112, 117, 116, 97, 99, 107]⟩, .int .i64 2, .int .i64 1, .int .i64 2, .int .i64 0, .int .i64 0, .int .i64 0, .int .i64 0, .int .i64 0, .string ⟨#[112, 114, 111, 98, 101]⟩, .int .i64 3, .int .i64 1, .int .i64 2, .int .i64 7, .int .i64 0, .int .i64 0, .int .i64 0, .int .i64 0, .string ⟨#[119, 97, 108, 107, 101, 100]⟩, .int .i64 2, .int .i64 1, .int .i64 8, .int .i64 9, .int .i64 12, .int .i64 0, .int .i64 0, .int .i64 0, .string ⟨#[100, 114, 111, 112]⟩, .int .i64 3, .int .i64 1, .int .i64 13, .int .i64 0, .int .i64 0, .int .i64 0, .int .i64 0, .int .i64 0] t fr)
theorem Kinds.lt {w : World} (h : Kinds w) : 2 < w.heap.size := by obtain ⟨_, _, h⟩ := h; exact lt_of h
theorem Kinds.block {w w' : World} (h : Kinds w) (hb : w'.heap[(2 : Nat)]? = w.heap[(2 : Nat)]?) : Kinds w' := by
  obtain ⟨t, fr, h⟩ := h; exact ⟨t, fr, hb.trans h⟩
theorem Kinds.ext {w w' : World} (h : Kinds w) (hb : Below w.heap.size w w') : Kinds w' := h.block (hb.block _ h.lt)
/-- Lanes and fields of kinds. -/
def laneT (k : Nat) : Int := ([0, 0, 0, 0, 1, 1, 0, 1, 2, 2, 2, 3, 2, 3] : List Int)[k]?.getD 0
def kindB (k : Int) : Bool := decide (1 ≤ k) && decide (k < 14)
set_option maxRecDepth 100000 in
theorem Kinds.lane {w : World} (h : Kinds w) (k : Nat) (hk : k < 14) : w.cell? ⟨2, k * 9 + 1, none⟩ = some (.int .i64 (laneT k)) := by
  obtain ⟨t, fr, h⟩ := h
  unfold World.cell?
  rw [h]
  have h1 : k = 0 ∨ k = 1 ∨ k = 2 ∨ k = 3 ∨ k = 4 ∨ k = 5 ∨ k = 6 ∨ k = 7 ∨ k = 8 ∨ k = 9 ∨ k = 10 ∨ k = 11 ∨ k = 12 ∨ k = 13 := by omega
  rcases h1 with rfl | rfl | rfl | rfl | rfl | rfl | rfl | rfl | rfl | rfl | rfl | rfl | rfl | rfl <;> rfl
theorem nis_any (k : Int) (w : World) : Calls Tryd.prog 94 #[.int .i64 k] w fun e w' => e = .returned (.bool (kindB k)) ∧ w' = w := by
  unfold kindB
  by_cases h1 : 1 ≤ k
  · have e1 : decide (k ≥ 1) = true := by simpa using h1
    go_enter Tryd.func94, Tryd.ntmps94
    go_wp2_with fail
    go_ret
    exact ⟨ret_bool (by simp [h1]), rfl⟩
  · have e1 : decide (k ≥ 1) = false := by simp; omega
    go_enter Tryd.func94, Tryd.ntmps94
    go_wp2_with fail
    go_ret
    exact ⟨ret_bool (by simp), rfl⟩
theorem nlane_no (k : Int) (hk : kindB k = false) (w : World) : Calls Tryd.prog 74 #[.int .i64 k] w fun e w' => e = .returned (.tuple #[.int .i64 0, .int .i64 15]) ∧ w' = w := by
  have HI := Lib.hid (nis_any k w)
  rw [hk] at HI
  clear hk
  go_enter Tryd.func74, Tryd.ntmps74
  go_wp2_with fail
  refine HI.out.mono ?_
  rintro e w1 ⟨rfl, hw⟩
  subst hw
  go_wp2_with fail
  go_ret2
  exact ⟨rfl, rfl⟩
theorem nlane_ok (k : Nat) (h1 : 1 ≤ k) (h2 : k < 14) (w : World) (hK : Kinds w) : Calls Tryd.prog 74 #[.int .i64 k] w fun e w' => e = .returned (.tuple #[.int .i64 (laneT k), .int .i64 0]) ∧ w' = w := by
  have HI := nis_any k w
  rw [show kindB k = true by simp [kindB]; omega] at HI
  have HI := Lib.hid HI
  have x := hK.lane k h2
  have hl := hK.lt
  have hk : (k : Int) < 14 := by omega
  clear h1 h2 hK
  generalize laneT k = ln at *
  go_enter Tryd.func74, Tryd.ntmps74
  go_wp2_with fail
  refine HI.out.mono ?_
  rintro e w1 ⟨rfl, hw⟩
  subst hw
  go_wp2_with fail
  go_ret2
  exact ⟨rfl, rfl⟩

end Go.Proofs.YtkfnjpmigifomaaDoor
