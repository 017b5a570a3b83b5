/- What this text holds: what the document's answer for layer 6 computes. No condition. -/
import Derived.Test.YtkfnjpmigifomaaDoorMoesi
namespace Go.Proofs.YtkfnjpmigifomaaDoor
open Go.RowKit

/-- A state's letter. -/
def letB (s : Int) : ByteArray := if s = 0 then ⟨#[73]⟩ else if s = 1 then ⟨#[83]⟩ else if s = 2 then ⟨#[69]⟩ else if s = 3 then ⟨#[79]⟩ else if s = 4 then ⟨#[77]⟩ else ⟨#[]⟩
theorem letB_no {s : Int} (h : s < 0 ∨ 4 < s) : letB s = ⟨#[]⟩ := by
  unfold letB
  rw [if_neg (by omega), if_neg (by omega), if_neg (by omega), if_neg (by omega), if_neg (by omega)]
theorem ret_str {a b : ByteArray} (h : a = b) : Ending.returned (.string a) = .returned (.string b) := by rw [h]
theorem letter_lo (s : Int) (w : World) (h : s < 0) : Calls Tryd.prog 54 #[.int .i64 s] w fun e w' => e = .returned (.string (⟨#[]⟩ : ByteArray)) ∧ w = w' := by
  go_enter Tryd.func54, Tryd.ntmps54
  go_wp2
  go_ret
  exact ⟨rfl, rfl⟩
theorem letter_hi (s : Int) (w : World) (h : 4 < s) : Calls Tryd.prog 54 #[.int .i64 s] w fun e w' => e = .returned (.string (⟨#[]⟩ : ByteArray)) ∧ w = w' := by
  go_enter Tryd.func54, Tryd.ntmps54
  go_wp2
  go_ret
  exact ⟨rfl, rfl⟩
theorem letter_no (s : Int) (w : World) (h : s < 0 ∨ 4 < s) : Calls Tryd.prog 54 #[.int .i64 s] w fun e w' => e = .returned (.string (⟨#[]⟩ : ByteArray)) ∧ w = w' := by
  rcases h with h | h
  · exact letter_lo s w h
  · exact letter_hi s w h
theorem letter_0 (w : World) : Calls Tryd.prog 54 #[.int .i64 0] w fun e w' => e = .returned (.string (⟨#[73]⟩ : ByteArray)) ∧ w = w' := by
  go_enter Tryd.func54, Tryd.ntmps54
  go_wp2
  go_ret
  exact ⟨rfl, rfl⟩
theorem letter_1 (w : World) : Calls Tryd.prog 54 #[.int .i64 1] w fun e w' => e = .returned (.string (⟨#[83]⟩ : ByteArray)) ∧ w = w' := by
  go_enter Tryd.func54, Tryd.ntmps54
  go_wp2
  go_ret
  exact ⟨rfl, rfl⟩
theorem letter_2 (w : World) : Calls Tryd.prog 54 #[.int .i64 2] w fun e w' => e = .returned (.string (⟨#[69]⟩ : ByteArray)) ∧ w = w' := by
  go_enter Tryd.func54, Tryd.ntmps54
  go_wp2
  go_ret
  exact ⟨rfl, rfl⟩
theorem letter_3 (w : World) : Calls Tryd.prog 54 #[.int .i64 3] w fun e w' => e = .returned (.string (⟨#[79]⟩ : ByteArray)) ∧ w = w' := by
  go_enter Tryd.func54, Tryd.ntmps54
  go_wp2
  go_ret
  exact ⟨rfl, rfl⟩
theorem letter_4 (w : World) : Calls Tryd.prog 54 #[.int .i64 4] w fun e w' => e = .returned (.string (⟨#[77]⟩ : ByteArray)) ∧ w = w' := by
  go_enter Tryd.func54, Tryd.ntmps54
  go_wp2
  go_ret
  exact ⟨rfl, rfl⟩
theorem letter_any (s : Int) (w : World) : Calls Tryd.prog 54 #[.int .i64 s] w fun e w' => e = .returned (.string (letB s)) ∧ w = w' := by
  rcases five s with h | rfl | rfl | rfl | rfl | rfl | h
  · rw [letB_no (.inl h)]; exact letter_no s w (.inl h)
  · exact letter_0 w
  · exact letter_1 w
  · exact letter_2 w
  · exact letter_3 w
  · exact letter_4 w
  · rw [letB_no (.inr h)]; exact letter_no s w (.inr h)
theorem rloadin_0 (w : World) : Calls Tryd.prog 86 #[.int .i64 0, .string (⟨#[83, 69, 79, 77]⟩ : ByteArray)] w fun e w' => e = .returned (.bool false) ∧ w = w' := by
  have e0 : (([73] : List UInt8) == ((⟨#[83, 69, 79, 77]⟩ : ByteArray).extract 0 1).toList) = false := by decide +kernel
  have e1 : (([73] : List UInt8) == ((⟨#[83, 69, 79, 77]⟩ : ByteArray).extract 1 2).toList) = false := by decide +kernel
  have e2 : (([73] : List UInt8) == ((⟨#[83, 69, 79, 77]⟩ : ByteArray).extract 2 3).toList) = false := by decide +kernel
  have e3 : (([73] : List UInt8) == ((⟨#[83, 69, 79, 77]⟩ : ByteArray).extract 3 4).toList) = false := by decide +kernel
  go_enter Tryd.func86, Tryd.ntmps86
  go_wp2_with (go_at_call 54; refine (letter_0 _).mono ?_; rintro e w' ⟨rfl, rfl⟩)
  refine wp_loop_rounds 5 ?_
  rw [rounds_succ]
  go_wp2
  rw [rounds_succ]
  go_wp2
  rw [rounds_succ]
  go_wp2
  rw [rounds_succ]
  go_wp2
  rw [rounds_succ]
  go_wp2
  go_ret
  exact ⟨rfl, rfl⟩
theorem rload_0 (w : World) : Calls Tryd.prog 45 #[.int .i64 0] w fun e w' => e = .returned (.bool false) ∧ w = w' := by
  go_enter Tryd.func45, Tryd.ntmps45
  go_wp2_with (go_at_call 86; refine (rloadin_0 _).mono ?_; rintro e w' ⟨rfl, rfl⟩)
  go_ret
  exact ⟨rfl, rfl⟩
theorem rloadin_1 (w : World) : Calls Tryd.prog 86 #[.int .i64 1, .string (⟨#[83, 69, 79, 77]⟩ : ByteArray)] w fun e w' => e = .returned (.bool true) ∧ w = w' := by
  have e0 : (([83] : List UInt8) == ((⟨#[83, 69, 79, 77]⟩ : ByteArray).extract 0 1).toList) = true := by decide +kernel
  go_enter Tryd.func86, Tryd.ntmps86
  go_wp2_with (go_at_call 54; refine (letter_1 _).mono ?_; rintro e w' ⟨rfl, rfl⟩)
  refine wp_loop_rounds 1 ?_
  rw [rounds_succ]
  go_wp2
  go_ret
  exact ⟨rfl, rfl⟩
theorem rload_1 (w : World) : Calls Tryd.prog 45 #[.int .i64 1] w fun e w' => e = .returned (.bool true) ∧ w = w' := by
  go_enter Tryd.func45, Tryd.ntmps45
  go_wp2_with (go_at_call 86; refine (rloadin_1 _).mono ?_; rintro e w' ⟨rfl, rfl⟩)
  go_ret
  exact ⟨rfl, rfl⟩
theorem rloadin_2 (w : World) : Calls Tryd.prog 86 #[.int .i64 2, .string (⟨#[83, 69, 79, 77]⟩ : ByteArray)] w fun e w' => e = .returned (.bool true) ∧ w = w' := by
  have e0 : (([69] : List UInt8) == ((⟨#[83, 69, 79, 77]⟩ : ByteArray).extract 0 1).toList) = false := by decide +kernel
  have e1 : (([69] : List UInt8) == ((⟨#[83, 69, 79, 77]⟩ : ByteArray).extract 1 2).toList) = true := by decide +kernel
  go_enter Tryd.func86, Tryd.ntmps86
  go_wp2_with (go_at_call 54; refine (letter_2 _).mono ?_; rintro e w' ⟨rfl, rfl⟩)
  refine wp_loop_rounds 2 ?_
  rw [rounds_succ]
  go_wp2
  rw [rounds_succ]
  go_wp2
  go_ret
  exact ⟨rfl, rfl⟩
theorem rload_2 (w : World) : Calls Tryd.prog 45 #[.int .i64 2] w fun e w' => e = .returned (.bool true) ∧ w = w' := by
  go_enter Tryd.func45, Tryd.ntmps45
  go_wp2_with (go_at_call 86; refine (rloadin_2 _).mono ?_; rintro e w' ⟨rfl, rfl⟩)
  go_ret
  exact ⟨rfl, rfl⟩
theorem rloadin_3 (w : World) : Calls Tryd.prog 86 #[.int .i64 3, .string (⟨#[83, 69, 79, 77]⟩ : ByteArray)] w fun e w' => e = .returned (.bool true) ∧ w = w' := by
  have e0 : (([79] : List UInt8) == ((⟨#[83, 69, 79, 77]⟩ : ByteArray).extract 0 1).toList) = false := by decide +kernel
  have e1 : (([79] : List UInt8) == ((⟨#[83, 69, 79, 77]⟩ : ByteArray).extract 1 2).toList) = false := by decide +kernel
  have e2 : (([79] : List UInt8) == ((⟨#[83, 69, 79, 77]⟩ : ByteArray).extract 2 3).toList) = true := by decide +kernel
  go_enter Tryd.func86, Tryd.ntmps86
  go_wp2_with (go_at_call 54; refine (letter_3 _).mono ?_; rintro e w' ⟨rfl, rfl⟩)
  refine wp_loop_rounds 3 ?_
  rw [rounds_succ]
  go_wp2
  rw [rounds_succ]
  go_wp2
  rw [rounds_succ]
  go_wp2
  go_ret
  exact ⟨rfl, rfl⟩
theorem rload_3 (w : World) : Calls Tryd.prog 45 #[.int .i64 3] w fun e w' => e = .returned (.bool true) ∧ w = w' := by
  go_enter Tryd.func45, Tryd.ntmps45
  go_wp2_with (go_at_call 86; refine (rloadin_3 _).mono ?_; rintro e w' ⟨rfl, rfl⟩)
  go_ret
  exact ⟨rfl, rfl⟩
theorem rloadin_4 (w : World) : Calls Tryd.prog 86 #[.int .i64 4, .string (⟨#[83, 69, 79, 77]⟩ : ByteArray)] w fun e w' => e = .returned (.bool true) ∧ w = w' := by
  have e0 : (([77] : List UInt8) == ((⟨#[83, 69, 79, 77]⟩ : ByteArray).extract 0 1).toList) = false := by decide +kernel
  have e1 : (([77] : List UInt8) == ((⟨#[83, 69, 79, 77]⟩ : ByteArray).extract 1 2).toList) = false := by decide +kernel
  have e2 : (([77] : List UInt8) == ((⟨#[83, 69, 79, 77]⟩ : ByteArray).extract 2 3).toList) = false := by decide +kernel
  have e3 : (([77] : List UInt8) == ((⟨#[83, 69, 79, 77]⟩ : ByteArray).extract 3 4).toList) = true := by decide +kernel
  go_enter Tryd.func86, Tryd.ntmps86
  go_wp2_with (go_at_call 54; refine (letter_4 _).mono ?_; rintro e w' ⟨rfl, rfl⟩)
  refine wp_loop_rounds 4 ?_
  rw [rounds_succ]
  go_wp2
  rw [rounds_succ]
  go_wp2
  rw [rounds_succ]
  go_wp2
  rw [rounds_succ]
  go_wp2
  go_ret
  exact ⟨rfl, rfl⟩
theorem rload_4 (w : World) : Calls Tryd.prog 45 #[.int .i64 4] w fun e w' => e = .returned (.bool true) ∧ w = w' := by
  go_enter Tryd.func45, Tryd.ntmps45
  go_wp2_with (go_at_call 86; refine (rloadin_4 _).mono ?_; rintro e w' ⟨rfl, rfl⟩)
  go_ret
  exact ⟨rfl, rfl⟩
theorem rloadin_no (s : Int) (w : World) (h : s < 0 ∨ 4 < s) : Calls Tryd.prog 86 #[.int .i64 s, .string (⟨#[83, 69, 79, 77]⟩ : ByteArray)] w fun e w' => e = .returned (.bool false) ∧ w = w' := by
  have e0 : (([] : List UInt8) == ((⟨#[83, 69, 79, 77]⟩ : ByteArray).extract 0 1).toList) = false := by decide +kernel
  have e1 : (([] : List UInt8) == ((⟨#[83, 69, 79, 77]⟩ : ByteArray).extract 1 2).toList) = false := by decide +kernel
  have e2 : (([] : List UInt8) == ((⟨#[83, 69, 79, 77]⟩ : ByteArray).extract 2 3).toList) = false := by decide +kernel
  have e3 : (([] : List UInt8) == ((⟨#[83, 69, 79, 77]⟩ : ByteArray).extract 3 4).toList) = false := by decide +kernel
  go_enter Tryd.func86, Tryd.ntmps86
  go_wp2_with (go_at_call 54; refine (letter_no s _ h).mono ?_; rintro e w' ⟨rfl, rfl⟩)
  refine wp_loop_rounds 5 ?_
  rw [rounds_succ]
  go_wp2
  rw [rounds_succ]
  go_wp2
  rw [rounds_succ]
  go_wp2
  rw [rounds_succ]
  go_wp2
  rw [rounds_succ]
  go_wp2
  go_ret
  exact ⟨rfl, rfl⟩
theorem rload_no (s : Int) (w : World) (h : s < 0 ∨ 4 < s) : Calls Tryd.prog 45 #[.int .i64 s] w fun e w' => e = .returned (.bool false) ∧ w = w' := by
  go_enter Tryd.func45, Tryd.ntmps45
  go_wp2_with (go_at_call 86; refine (rloadin_no s _ h).mono ?_; rintro e w' ⟨rfl, rfl⟩)
  go_ret
  exact ⟨rfl, rfl⟩
theorem rload_any (s : Int) (w : World) : Calls Tryd.prog 45 #[.int .i64 s] w fun e w' => e = .returned (.bool (vB s)) ∧ w = w' := by
  rcases five s with h | rfl | rfl | rfl | rfl | rfl | h
  · rw [vB_no (.inl h)]; exact rload_no s w (.inl h)
  · exact rload_0 w
  · exact rload_1 w
  · exact rload_2 w
  · exact rload_3 w
  · exact rload_4 w
  · rw [vB_no (.inr h)]; exact rload_no s w (.inr h)
theorem rstorein_0 (w : World) : Calls Tryd.prog 86 #[.int .i64 0, .string (⟨#[69, 77]⟩ : ByteArray)] w fun e w' => e = .returned (.bool false) ∧ w = w' := by
  have e0 : (([73] : List UInt8) == ((⟨#[69, 77]⟩ : ByteArray).extract 0 1).toList) = false := by decide +kernel
  have e1 : (([73] : List UInt8) == ((⟨#[69, 77]⟩ : ByteArray).extract 1 2).toList) = false := by decide +kernel
  go_enter Tryd.func86, Tryd.ntmps86
  go_wp2_with (go_at_call 54; refine (letter_0 _).mono ?_; rintro e w' ⟨rfl, rfl⟩)
  refine wp_loop_rounds 3 ?_
  rw [rounds_succ]
  go_wp2
  rw [rounds_succ]
  go_wp2
  rw [rounds_succ]
  go_wp2
  go_ret
  exact ⟨rfl, rfl⟩
theorem rstore_0 (w : World) : Calls Tryd.prog 48 #[.int .i64 0] w fun e w' => e = .returned (.bool false) ∧ w = w' := by
  go_enter Tryd.func48, Tryd.ntmps48
  go_wp2_with (go_at_call 86; refine (rstorein_0 _).mono ?_; rintro e w' ⟨rfl, rfl⟩)
  go_ret
  exact ⟨rfl, rfl⟩
theorem rstorein_1 (w : World) : Calls Tryd.prog 86 #[.int .i64 1, .string (⟨#[69, 77]⟩ : ByteArray)] w fun e w' => e = .returned (.bool false) ∧ w = w' := by
  have e0 : (([83] : List UInt8) == ((⟨#[69, 77]⟩ : ByteArray).extract 0 1).toList) = false := by decide +kernel
  have e1 : (([83] : List UInt8) == ((⟨#[69, 77]⟩ : ByteArray).extract 1 2).toList) = false := by decide +kernel
  go_enter Tryd.func86, Tryd.ntmps86
  go_wp2_with (go_at_call 54; refine (letter_1 _).mono ?_; rintro e w' ⟨rfl, rfl⟩)
  refine wp_loop_rounds 3 ?_
  rw [rounds_succ]
  go_wp2
  rw [rounds_succ]
  go_wp2
  rw [rounds_succ]
  go_wp2
  go_ret
  exact ⟨rfl, rfl⟩
theorem rstore_1 (w : World) : Calls Tryd.prog 48 #[.int .i64 1] w fun e w' => e = .returned (.bool false) ∧ w = w' := by
  go_enter Tryd.func48, Tryd.ntmps48
  go_wp2_with (go_at_call 86; refine (rstorein_1 _).mono ?_; rintro e w' ⟨rfl, rfl⟩)
  go_ret
  exact ⟨rfl, rfl⟩
theorem rstorein_2 (w : World) : Calls Tryd.prog 86 #[.int .i64 2, .string (⟨#[69, 77]⟩ : ByteArray)] w fun e w' => e = .returned (.bool true) ∧ w = w' := by
  have e0 : (([69] : List UInt8) == ((⟨#[69, 77]⟩ : ByteArray).extract 0 1).toList) = true := by decide +kernel
  go_enter Tryd.func86, Tryd.ntmps86
  go_wp2_with (go_at_call 54; refine (letter_2 _).mono ?_; rintro e w' ⟨rfl, rfl⟩)
  refine wp_loop_rounds 1 ?_
  rw [rounds_succ]
  go_wp2
  go_ret
  exact ⟨rfl, rfl⟩
theorem rstore_2 (w : World) : Calls Tryd.prog 48 #[.int .i64 2] w fun e w' => e = .returned (.bool true) ∧ w = w' := by
  go_enter Tryd.func48, Tryd.ntmps48
  go_wp2_with (go_at_call 86; refine (rstorein_2 _).mono ?_; rintro e w' ⟨rfl, rfl⟩)
  go_ret
  exact ⟨rfl, rfl⟩
theorem rstorein_3 (w : World) : Calls Tryd.prog 86 #[.int .i64 3, .string (⟨#[69, 77]⟩ : ByteArray)] w fun e w' => e = .returned (.bool false) ∧ w = w' := by
  have e0 : (([79] : List UInt8) == ((⟨#[69, 77]⟩ : ByteArray).extract 0 1).toList) = false := by decide +kernel
  have e1 : (([79] : List UInt8) == ((⟨#[69, 77]⟩ : ByteArray).extract 1 2).toList) = false := by decide +kernel
  go_enter Tryd.func86, Tryd.ntmps86
  go_wp2_with (go_at_call 54; refine (letter_3 _).mono ?_; rintro e w' ⟨rfl, rfl⟩)
  refine wp_loop_rounds 3 ?_
  rw [rounds_succ]
  go_wp2
  rw [rounds_succ]
  go_wp2
  rw [rounds_succ]
  go_wp2
  go_ret
  exact ⟨rfl, rfl⟩
theorem rstore_3 (w : World) : Calls Tryd.prog 48 #[.int .i64 3] w fun e w' => e = .returned (.bool false) ∧ w = w' := by
  go_enter Tryd.func48, Tryd.ntmps48
  go_wp2_with (go_at_call 86; refine (rstorein_3 _).mono ?_; rintro e w' ⟨rfl, rfl⟩)
  go_ret
  exact ⟨rfl, rfl⟩
theorem rstorein_4 (w : World) : Calls Tryd.prog 86 #[.int .i64 4, .string (⟨#[69, 77]⟩ : ByteArray)] w fun e w' => e = .returned (.bool true) ∧ w = w' := by
  have e0 : (([77] : List UInt8) == ((⟨#[69, 77]⟩ : ByteArray).extract 0 1).toList) = false := by decide +kernel
  have e1 : (([77] : List UInt8) == ((⟨#[69, 77]⟩ : ByteArray).extract 1 2).toList) = true := by decide +kernel
  go_enter Tryd.func86, Tryd.ntmps86
  go_wp2_with (go_at_call 54; refine (letter_4 _).mono ?_; rintro e w' ⟨rfl, rfl⟩)
  refine wp_loop_rounds 2 ?_
  rw [rounds_succ]
  go_wp2
  rw [rounds_succ]
  go_wp2
  go_ret
  exact ⟨rfl, rfl⟩
theorem rstore_4 (w : World) : Calls Tryd.prog 48 #[.int .i64 4] w fun e w' => e = .returned (.bool true) ∧ w = w' := by
  go_enter Tryd.func48, Tryd.ntmps48
  go_wp2_with (go_at_call 86; refine (rstorein_4 _).mono ?_; rintro e w' ⟨rfl, rfl⟩)
  go_ret
  exact ⟨rfl, rfl⟩
theorem rstorein_no (s : Int) (w : World) (h : s < 0 ∨ 4 < s) : Calls Tryd.prog 86 #[.int .i64 s, .string (⟨#[69, 77]⟩ : ByteArray)] w fun e w' => e = .returned (.bool false) ∧ w = w' := by
  have e0 : (([] : List UInt8) == ((⟨#[69, 77]⟩ : ByteArray).extract 0 1).toList) = false := by decide +kernel
  have e1 : (([] : List UInt8) == ((⟨#[69, 77]⟩ : ByteArray).extract 1 2).toList) = false := by decide +kernel
  go_enter Tryd.func86, Tryd.ntmps86
  go_wp2_with (go_at_call 54; refine (letter_no s _ h).mono ?_; rintro e w' ⟨rfl, rfl⟩)
  refine wp_loop_rounds 3 ?_
  rw [rounds_succ]
  go_wp2
  rw [rounds_succ]
  go_wp2
  rw [rounds_succ]
  go_wp2
  go_ret
  exact ⟨rfl, rfl⟩
theorem rstore_no (s : Int) (w : World) (h : s < 0 ∨ 4 < s) : Calls Tryd.prog 48 #[.int .i64 s] w fun e w' => e = .returned (.bool false) ∧ w = w' := by
  go_enter Tryd.func48, Tryd.ntmps48
  go_wp2_with (go_at_call 86; refine (rstorein_no s _ h).mono ?_; rintro e w' ⟨rfl, rfl⟩)
  go_ret
  exact ⟨rfl, rfl⟩
theorem rstore_any (s : Int) (w : World) : Calls Tryd.prog 48 #[.int .i64 s] w fun e w' => e = .returned (.bool (stB s)) ∧ w = w' := by
  rcases five s with h | rfl | rfl | rfl | rfl | rfl | h
  · rw [stB_no (.inl h)]; exact rstore_no s w (.inl h)
  · exact rstore_0 w
  · exact rstore_1 w
  · exact rstore_2 w
  · exact rstore_3 w
  · exact rstore_4 w
  · rw [stB_no (.inr h)]; exact rstore_no s w (.inr h)
theorem rdirtyin_0 (w : World) : Calls Tryd.prog 86 #[.int .i64 0, .string (⟨#[79, 77]⟩ : ByteArray)] w fun e w' => e = .returned (.bool false) ∧ w = w' := by
  have e0 : (([73] : List UInt8) == ((⟨#[79, 77]⟩ : ByteArray).extract 0 1).toList) = false := by decide +kernel
  have e1 : (([73] : List UInt8) == ((⟨#[79, 77]⟩ : ByteArray).extract 1 2).toList) = false := by decide +kernel
  go_enter Tryd.func86, Tryd.ntmps86
  go_wp2_with (go_at_call 54; refine (letter_0 _).mono ?_; rintro e w' ⟨rfl, rfl⟩)
  refine wp_loop_rounds 3 ?_
  rw [rounds_succ]
  go_wp2
  rw [rounds_succ]
  go_wp2
  rw [rounds_succ]
  go_wp2
  go_ret
  exact ⟨rfl, rfl⟩
theorem rdirty_0 (w : World) : Calls Tryd.prog 50 #[.int .i64 0] w fun e w' => e = .returned (.bool false) ∧ w = w' := by
  go_enter Tryd.func50, Tryd.ntmps50
  go_wp2_with (go_at_call 86; refine (rdirtyin_0 _).mono ?_; rintro e w' ⟨rfl, rfl⟩)
  go_ret
  exact ⟨rfl, rfl⟩
theorem rdirtyin_1 (w : World) : Calls Tryd.prog 86 #[.int .i64 1, .string (⟨#[79, 77]⟩ : ByteArray)] w fun e w' => e = .returned (.bool false) ∧ w = w' := by
  have e0 : (([83] : List UInt8) == ((⟨#[79, 77]⟩ : ByteArray).extract 0 1).toList) = false := by decide +kernel
  have e1 : (([83] : List UInt8) == ((⟨#[79, 77]⟩ : ByteArray).extract 1 2).toList) = false := by decide +kernel
  go_enter Tryd.func86, Tryd.ntmps86
  go_wp2_with (go_at_call 54; refine (letter_1 _).mono ?_; rintro e w' ⟨rfl, rfl⟩)
  refine wp_loop_rounds 3 ?_
  rw [rounds_succ]
  go_wp2
  rw [rounds_succ]
  go_wp2
  rw [rounds_succ]
  go_wp2
  go_ret
  exact ⟨rfl, rfl⟩
theorem rdirty_1 (w : World) : Calls Tryd.prog 50 #[.int .i64 1] w fun e w' => e = .returned (.bool false) ∧ w = w' := by
  go_enter Tryd.func50, Tryd.ntmps50
  go_wp2_with (go_at_call 86; refine (rdirtyin_1 _).mono ?_; rintro e w' ⟨rfl, rfl⟩)
  go_ret
  exact ⟨rfl, rfl⟩
theorem rdirtyin_2 (w : World) : Calls Tryd.prog 86 #[.int .i64 2, .string (⟨#[79, 77]⟩ : ByteArray)] w fun e w' => e = .returned (.bool false) ∧ w = w' := by
  have e0 : (([69] : List UInt8) == ((⟨#[79, 77]⟩ : ByteArray).extract 0 1).toList) = false := by decide +kernel
  have e1 : (([69] : List UInt8) == ((⟨#[79, 77]⟩ : ByteArray).extract 1 2).toList) = false := by decide +kernel
  go_enter Tryd.func86, Tryd.ntmps86
  go_wp2_with (go_at_call 54; refine (letter_2 _).mono ?_; rintro e w' ⟨rfl, rfl⟩)
  refine wp_loop_rounds 3 ?_
  rw [rounds_succ]
  go_wp2
  rw [rounds_succ]
  go_wp2
  rw [rounds_succ]
  go_wp2
  go_ret
  exact ⟨rfl, rfl⟩
theorem rdirty_2 (w : World) : Calls Tryd.prog 50 #[.int .i64 2] w fun e w' => e = .returned (.bool false) ∧ w = w' := by
  go_enter Tryd.func50, Tryd.ntmps50
  go_wp2_with (go_at_call 86; refine (rdirtyin_2 _).mono ?_; rintro e w' ⟨rfl, rfl⟩)
  go_ret
  exact ⟨rfl, rfl⟩
theorem rdirtyin_3 (w : World) : Calls Tryd.prog 86 #[.int .i64 3, .string (⟨#[79, 77]⟩ : ByteArray)] w fun e w' => e = .returned (.bool true) ∧ w = w' := by
  have e0 : (([79] : List UInt8) == ((⟨#[79, 77]⟩ : ByteArray).extract 0 1).toList) = true := by decide +kernel
  go_enter Tryd.func86, Tryd.ntmps86
  go_wp2_with (go_at_call 54; refine (letter_3 _).mono ?_; rintro e w' ⟨rfl, rfl⟩)
  refine wp_loop_rounds 1 ?_
  rw [rounds_succ]
  go_wp2
  go_ret
  exact ⟨rfl, rfl⟩
theorem rdirty_3 (w : World) : Calls Tryd.prog 50 #[.int .i64 3] w fun e w' => e = .returned (.bool true) ∧ w = w' := by
  go_enter Tryd.func50, Tryd.ntmps50
  go_wp2_with (go_at_call 86; refine (rdirtyin_3 _).mono ?_; rintro e w' ⟨rfl, rfl⟩)
  go_ret
  exact ⟨rfl, rfl⟩
theorem rdirtyin_4 (w : World) : Calls Tryd.prog 86 #[.int .i64 4, .string (⟨#[79, 77]⟩ : ByteArray)] w fun e w' => e = .returned (.bool true) ∧ w = w' := by
  have e0 : (([77] : List UInt8) == ((⟨#[79, 77]⟩ : ByteArray).extract 0 1).toList) = false := by decide +kernel
  have e1 : (([77] : List UInt8) == ((⟨#[79, 77]⟩ : ByteArray).extract 1 2).toList) = true := by decide +kernel
  go_enter Tryd.func86, Tryd.ntmps86
  go_wp2_with (go_at_call 54; refine (letter_4 _).mono ?_; rintro e w' ⟨rfl, rfl⟩)
  refine wp_loop_rounds 2 ?_
  rw [rounds_succ]
  go_wp2
  rw [rounds_succ]
  go_wp2
  go_ret
  exact ⟨rfl, rfl⟩
theorem rdirty_4 (w : World) : Calls Tryd.prog 50 #[.int .i64 4] w fun e w' => e = .returned (.bool true) ∧ w = w' := by
  go_enter Tryd.func50, Tryd.ntmps50
  go_wp2_with (go_at_call 86; refine (rdirtyin_4 _).mono ?_; rintro e w' ⟨rfl, rfl⟩)
  go_ret
  exact ⟨rfl, rfl⟩
theorem rdirtyin_no (s : Int) (w : World) (h : s < 0 ∨ 4 < s) : Calls Tryd.prog 86 #[.int .i64 s, .string (⟨#[79, 77]⟩ : ByteArray)] w fun e w' => e = .returned (.bool false) ∧ w = w' := by
  have e0 : (([] : List UInt8) == ((⟨#[79, 77]⟩ : ByteArray).extract 0 1).toList) = false := by decide +kernel
  have e1 : (([] : List UInt8) == ((⟨#[79, 77]⟩ : ByteArray).extract 1 2).toList) = false := by decide +kernel
  go_enter Tryd.func86, Tryd.ntmps86
  go_wp2_with (go_at_call 54; refine (letter_no s _ h).mono ?_; rintro e w' ⟨rfl, rfl⟩)
  refine wp_loop_rounds 3 ?_
  rw [rounds_succ]
  go_wp2
  rw [rounds_succ]
  go_wp2
  rw [rounds_succ]
  go_wp2
  go_ret
  exact ⟨rfl, rfl⟩
theorem rdirty_no (s : Int) (w : World) (h : s < 0 ∨ 4 < s) : Calls Tryd.prog 50 #[.int .i64 s] w fun e w' => e = .returned (.bool false) ∧ w = w' := by
  go_enter Tryd.func50, Tryd.ntmps50
  go_wp2_with (go_at_call 86; refine (rdirtyin_no s _ h).mono ?_; rintro e w' ⟨rfl, rfl⟩)
  go_ret
  exact ⟨rfl, rfl⟩
theorem rdirty_any (s : Int) (w : World) : Calls Tryd.prog 50 #[.int .i64 s] w fun e w' => e = .returned (.bool (dtB s)) ∧ w = w' := by
  rcases five s with h | rfl | rfl | rfl | rfl | rfl | h
  · rw [dtB_no (.inl h)]; exact rdirty_no s w (.inl h)
  · exact rdirty_0 w
  · exact rdirty_1 w
  · exact rdirty_2 w
  · exact rdirty_3 w
  · exact rdirty_4 w
  · rw [dtB_no (.inr h)]; exact rdirty_no s w (.inr h)
theorem rownerin_0 (w : World) : Calls Tryd.prog 86 #[.int .i64 0, .string (⟨#[69, 79, 77]⟩ : ByteArray)] w fun e w' => e = .returned (.bool false) ∧ w = w' := by
  have e0 : (([73] : List UInt8) == ((⟨#[69, 79, 77]⟩ : ByteArray).extract 0 1).toList) = false := by decide +kernel
  have e1 : (([73] : List UInt8) == ((⟨#[69, 79, 77]⟩ : ByteArray).extract 1 2).toList) = false := by decide +kernel
  have e2 : (([73] : List UInt8) == ((⟨#[69, 79, 77]⟩ : ByteArray).extract 2 3).toList) = false := by decide +kernel
  go_enter Tryd.func86, Tryd.ntmps86
  go_wp2_with (go_at_call 54; refine (letter_0 _).mono ?_; rintro e w' ⟨rfl, rfl⟩)
  refine wp_loop_rounds 4 ?_
  rw [rounds_succ]
  go_wp2
  rw [rounds_succ]
  go_wp2
  rw [rounds_succ]
  go_wp2
  rw [rounds_succ]
  go_wp2
  go_ret
  exact ⟨rfl, rfl⟩
theorem rowner_0 (w : World) : Calls Tryd.prog 52 #[.int .i64 0] w fun e w' => e = .returned (.bool false) ∧ w = w' := by
  go_enter Tryd.func52, Tryd.ntmps52
  go_wp2_with (go_at_call 86; refine (rownerin_0 _).mono ?_; rintro e w' ⟨rfl, rfl⟩)
  go_ret
  exact ⟨rfl, rfl⟩
theorem rownerin_1 (w : World) : Calls Tryd.prog 86 #[.int .i64 1, .string (⟨#[69, 79, 77]⟩ : ByteArray)] w fun e w' => e = .returned (.bool false) ∧ w = w' := by
  have e0 : (([83] : List UInt8) == ((⟨#[69, 79, 77]⟩ : ByteArray).extract 0 1).toList) = false := by decide +kernel
  have e1 : (([83] : List UInt8) == ((⟨#[69, 79, 77]⟩ : ByteArray).extract 1 2).toList) = false := by decide +kernel
  have e2 : (([83] : List UInt8) == ((⟨#[69, 79, 77]⟩ : ByteArray).extract 2 3).toList) = false := by decide +kernel
  go_enter Tryd.func86, Tryd.ntmps86
  go_wp2_with (go_at_call 54; refine (letter_1 _).mono ?_; rintro e w' ⟨rfl, rfl⟩)
  refine wp_loop_rounds 4 ?_
  rw [rounds_succ]
  go_wp2
  rw [rounds_succ]
  go_wp2
  rw [rounds_succ]
  go_wp2
  rw [rounds_succ]
  go_wp2
  go_ret
  exact ⟨rfl, rfl⟩
theorem rowner_1 (w : World) : Calls Tryd.prog 52 #[.int .i64 1] w fun e w' => e = .returned (.bool false) ∧ w = w' := by
  go_enter Tryd.func52, Tryd.ntmps52
  go_wp2_with (go_at_call 86; refine (rownerin_1 _).mono ?_; rintro e w' ⟨rfl, rfl⟩)
  go_ret
  exact ⟨rfl, rfl⟩
theorem rownerin_2 (w : World) : Calls Tryd.prog 86 #[.int .i64 2, .string (⟨#[69, 79, 77]⟩ : ByteArray)] w fun e w' => e = .returned (.bool true) ∧ w = w' := by
  have e0 : (([69] : List UInt8) == ((⟨#[69, 79, 77]⟩ : ByteArray).extract 0 1).toList) = true := by decide +kernel
  go_enter Tryd.func86, Tryd.ntmps86
  go_wp2_with (go_at_call 54; refine (letter_2 _).mono ?_; rintro e w' ⟨rfl, rfl⟩)
  refine wp_loop_rounds 1 ?_
  rw [rounds_succ]
  go_wp2
  go_ret
  exact ⟨rfl, rfl⟩
theorem rowner_2 (w : World) : Calls Tryd.prog 52 #[.int .i64 2] w fun e w' => e = .returned (.bool true) ∧ w = w' := by
  go_enter Tryd.func52, Tryd.ntmps52
  go_wp2_with (go_at_call 86; refine (rownerin_2 _).mono ?_; rintro e w' ⟨rfl, rfl⟩)
  go_ret
  exact ⟨rfl, rfl⟩
theorem rownerin_3 (w : World) : Calls Tryd.prog 86 #[.int .i64 3, .string (⟨#[69, 79, 77]⟩ : ByteArray)] w fun e w' => e = .returned (.bool true) ∧ w = w' := by
  have e0 : (([79] : List UInt8) == ((⟨#[69, 79, 77]⟩ : ByteArray).extract 0 1).toList) = false := by decide +kernel
  have e1 : (([79] : List UInt8) == ((⟨#[69, 79, 77]⟩ : ByteArray).extract 1 2).toList) = true := by decide +kernel
  go_enter Tryd.func86, Tryd.ntmps86
  go_wp2_with (go_at_call 54; refine (letter_3 _).mono ?_; rintro e w' ⟨rfl, rfl⟩)
  refine wp_loop_rounds 2 ?_
  rw [rounds_succ]
  go_wp2
  rw [rounds_succ]
  go_wp2
  go_ret
  exact ⟨rfl, rfl⟩
theorem rowner_3 (w : World) : Calls Tryd.prog 52 #[.int .i64 3] w fun e w' => e = .returned (.bool true) ∧ w = w' := by
  go_enter Tryd.func52, Tryd.ntmps52
  go_wp2_with (go_at_call 86; refine (rownerin_3 _).mono ?_; rintro e w' ⟨rfl, rfl⟩)
  go_ret
  exact ⟨rfl, rfl⟩
theorem rownerin_4 (w : World) : Calls Tryd.prog 86 #[.int .i64 4, .string (⟨#[69, 79, 77]⟩ : ByteArray)] w fun e w' => e = .returned (.bool true) ∧ w = w' := by
  have e0 : (([77] : List UInt8) == ((⟨#[69, 79, 77]⟩ : ByteArray).extract 0 1).toList) = false := by decide +kernel
  have e1 : (([77] : List UInt8) == ((⟨#[69, 79, 77]⟩ : ByteArray).extract 1 2).toList) = false := by decide +kernel
  have e2 : (([77] : List UInt8) == ((⟨#[69, 79, 77]⟩ : ByteArray).extract 2 3).toList) = true := by decide +kernel
  go_enter Tryd.func86, Tryd.ntmps86
  go_wp2_with (go_at_call 54; refine (letter_4 _).mono ?_; rintro e w' ⟨rfl, rfl⟩)
  refine wp_loop_rounds 3 ?_
  rw [rounds_succ]
  go_wp2
  rw [rounds_succ]
  go_wp2
  rw [rounds_succ]
  go_wp2
  go_ret
  exact ⟨rfl, rfl⟩
theorem rowner_4 (w : World) : Calls Tryd.prog 52 #[.int .i64 4] w fun e w' => e = .returned (.bool true) ∧ w = w' := by
  go_enter Tryd.func52, Tryd.ntmps52
  go_wp2_with (go_at_call 86; refine (rownerin_4 _).mono ?_; rintro e w' ⟨rfl, rfl⟩)
  go_ret
  exact ⟨rfl, rfl⟩
theorem rownerin_no (s : Int) (w : World) (h : s < 0 ∨ 4 < s) : Calls Tryd.prog 86 #[.int .i64 s, .string (⟨#[69, 79, 77]⟩ : ByteArray)] w fun e w' => e = .returned (.bool false) ∧ w = w' := by
  have e0 : (([] : List UInt8) == ((⟨#[69, 79, 77]⟩ : ByteArray).extract 0 1).toList) = false := by decide +kernel
  have e1 : (([] : List UInt8) == ((⟨#[69, 79, 77]⟩ : ByteArray).extract 1 2).toList) = false := by decide +kernel
  have e2 : (([] : List UInt8) == ((⟨#[69, 79, 77]⟩ : ByteArray).extract 2 3).toList) = false := by decide +kernel
  go_enter Tryd.func86, Tryd.ntmps86
  go_wp2_with (go_at_call 54; refine (letter_no s _ h).mono ?_; rintro e w' ⟨rfl, rfl⟩)
  refine wp_loop_rounds 4 ?_
  rw [rounds_succ]
  go_wp2
  rw [rounds_succ]
  go_wp2
  rw [rounds_succ]
  go_wp2
  rw [rounds_succ]
  go_wp2
  go_ret
  exact ⟨rfl, rfl⟩
theorem rowner_no (s : Int) (w : World) (h : s < 0 ∨ 4 < s) : Calls Tryd.prog 52 #[.int .i64 s] w fun e w' => e = .returned (.bool false) ∧ w = w' := by
  go_enter Tryd.func52, Tryd.ntmps52
  go_wp2_with (go_at_call 86; refine (rownerin_no s _ h).mono ?_; rintro e w' ⟨rfl, rfl⟩)
  go_ret
  exact ⟨rfl, rfl⟩
theorem rowner_any (s : Int) (w : World) : Calls Tryd.prog 52 #[.int .i64 s] w fun e w' => e = .returned (.bool (owB s)) ∧ w = w' := by
  rcases five s with h | rfl | rfl | rfl | rfl | rfl | h
  · rw [owB_no (.inl h)]; exact rowner_no s w (.inl h)
  · exact rowner_0 w
  · exact rowner_1 w
  · exact rowner_2 w
  · exact rowner_3 w
  · exact rowner_4 w
  · rw [owB_no (.inr h)]; exact rowner_no s w (.inr h)

end Go.Proofs.YtkfnjpmigifomaaDoor
