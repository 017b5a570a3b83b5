/- What this text holds: which lane of a fabric is found, and its room. No condition. -/
import Derived.Test.YtkfnjpmigifomaaDoorFbM
namespace Go.Proofs.YtkfnjpmigifomaaDoor
open Go.RowKit

section
variable {w : World} {B p : Nat} {c : Cfg} {n : Nat} {P : Nat → Nat} {V : Nat → Value} {G : Nat → List Nt}
theorem Fa.cell (h : Fa w B p c n P V G) {i k : Nat} (hi : (i : Int) < c.co) (hk : k < 4) : w.cell? ⟨p, 7 + i * 4 + k, none⟩ = some (.pointer (some ⟨P (i * 4 + k), 0, none⟩)) := by
  have hn := h.hn
  have h1 := h.n16.1
  have hlt : i * 4 + k < n := by omega
  have hp : ptrI n P (i * 4 + k) = .pointer (some ⟨P (i * 4 + k), 0, none⟩) := by unfold ptrI; rw [if_pos hlt]
  rw [← hp]
  have hi4 : i < 4 := by omega
  have hc : i = 0 ∨ i = 1 ∨ i = 2 ∨ i = 3 := by omega
  have hd : k = 0 ∨ k = 1 ∨ k = 2 ∨ k = 3 := by omega
  rcases hc with rfl | rfl | rfl | rfl <;> rcases hd with rfl | rfl | rfl | rfl <;> simp [World.cell?, h.box]
theorem Fa.c0 (h : Fa w B p c n P V G) : w.cell? ⟨p, 0, none⟩ = some (.int .i64 c.co) := by simp [World.cell?, h.box]
set_option maxRecDepth 100000 in
theorem ffind_ok (h : Fa w B p c n P V G) {i k : Nat} (hi : (i : Int) < c.co) (hk : k < 4) :
    Calls Tryd.prog 75 #[.pointer (some ⟨p, 0, none⟩), .int .i64 i, .int .i64 k] w fun e w' => e = .returned (.pointer (some ⟨P (i * 4 + k), 0, none⟩)) ∧ w' = w := by
  have x := h.cell hi hk
  have x0 := h.c0
  have hl := h.lt
  have h1 := h.ok.1
  unfold okAt at h1
  have e1 : decide ((i : Int) < 0) = false := by simp
  have e2 : decide ((i : Int) ≥ c.co) = false := by simp; omega
  have e3 : decide ((k : Int) < 0) = false := by simp
  have e4 : decide ((k : Int) ≥ 4) = false := by simp; omega
  have hi4 : (i : Int) < 4 := by omega
  have hk4 : (k : Int) < 4 := by omega
  generalize P (i * 4 + k) = pp at x
  clear h
  go_enter Tryd.func75, Tryd.ntmps75
  go_wp2_with fail
  go_ret
  exact ⟨rfl, rfl⟩
set_option maxRecDepth 100000 in
theorem ffind_no (h : Fa w B p c n P V G) (x y : Int) (hx : x < 0 ∨ c.co ≤ x ∨ y < 0 ∨ 4 ≤ y) :
    Calls Tryd.prog 75 #[.pointer (some ⟨p, 0, none⟩), .int .i64 x, .int .i64 y] w fun e w' => e = .returned (.pointer none) ∧ w' = w := by
  have x0 := h.c0
  have hl := h.lt
  clear h
  by_cases h1 : x < 0
  · have e1 : decide (x < 0) = true := by simpa using h1
    clear hx h1
    go_enter Tryd.func75, Tryd.ntmps75
    go_wp2_with fail
    go_ret
    exact ⟨rfl, rfl⟩
  have e1 : decide (x < 0) = false := by simpa using h1
  by_cases h2 : c.co ≤ x
  · have e2 : decide (x ≥ c.co) = true := by simpa using h2
    clear hx h1 h2
    go_enter Tryd.func75, Tryd.ntmps75
    go_wp2_with fail
    go_ret
    exact ⟨rfl, rfl⟩
  have e2 : decide (x ≥ c.co) = false := by simpa using h2
  by_cases h3 : y < 0
  · have e3 : decide (y < 0) = true := by simpa using h3
    clear hx h1 h2 h3
    go_enter Tryd.func75, Tryd.ntmps75
    go_wp2_with fail
    go_ret
    exact ⟨rfl, rfl⟩
  have e3 : decide (y < 0) = false := by simpa using h3
  have e4 : decide (y ≥ 4) = true := by simp; omega
  clear hx h1 h2 h3
  go_enter Tryd.func75, Tryd.ntmps75
  go_wp2_with fail
  go_ret
  exact ⟨rfl, rfl⟩
end

end Go.Proofs.YtkfnjpmigifomaaDoor
