/- What this text holds: the laws MonitorTwo and MonitorWhole in plain words. No condition. -/
import Derived.Test.YtjggnhcdnfmmeaaPl14
namespace Go.Proofs.Ytjggnhcdnfmmeaa
open Go.RowKit Go.Maps

section
variable {s : Ms} {n : Int}
theorem busy_no {F : Int → Option Ru} {co : Int} (h : ∀ k r, F k = some r → r.a.co ≠ co) : busyC F co = false := by
  cases hb : busyC F co with
  | false => rfl
  | true =>
    unfold busyC at hb
    rw [List.any_eq_true] at hb
    obtain ⟨k, _, hk⟩ := hb
    cases hF : F (k : Int) with
    | none => rw [hF] at hk; simp at hk
    | some r => rw [hF] at hk; exact absurd (by simpa using hk) (h _ _ hF)
theorem call_run (a : Ak) (h0 : 0 ≤ a.co ∧ a.co < n) (h1 : 0 ≤ a.gr ∧ a.gr < s.es.length) (h2 : s.F a.gr = none) (h3 : busyC s.F a.co = false) {th : Int} {sc : Bool} (h4 : judge a.ca a.wo (atE s.es a.gr.toNat).1 a.to = (th, sc, 0)) :
    s.call n a = (0, ⟨s.es.set a.gr.toNat ((atE s.es a.gr.toNat).1, true), updI s.F a.gr (some ⟨a, th, sc, 1, fun i => decide ((i : Int) < n)⟩)⟩) := by
  unfold Ms.call
  rw [if_neg (by omega), if_neg (by omega), h2, if_neg (by simp), h3, if_neg (by simp), h4, if_neg (by simp)]
theorem call_er (a : Ak) (h0 : 0 ≤ a.co ∧ a.co < n) (h1 : 0 ≤ a.gr ∧ a.gr < s.es.length) (h2 : s.F a.gr = none) (h3 : busyC s.F a.co = false) {j : Int × Bool × Int} (h4 : judge a.ca a.wo (atE s.es a.gr.toNat).1 a.to = j) (h5 : j.2.2 ≠ 0) : s.call n a = (j.2.2, s) := by
  unfold Ms.call
  rw [if_neg (by omega), if_neg (by omega), h2, if_neg (by simp), h3, if_neg (by simp), h4, if_pos h5]
theorem drop_none {k : Int} (co : Int) (hk : 0 ≤ k ∧ k < s.es.length) (h : s.F k = none) : s.drop n k co = (false, 16, s) := by
  unfold Ms.drop
  rw [if_neg (by omega), h, if_pos (by decide)]
theorem drop_run {k co : Int} (hk : 0 ≤ k ∧ k < s.es.length) {r : Ru} (h : s.F k = some r) (hp : r.ph = 1) (hc : 0 ≤ co ∧ co < n) (hw : r.w co.toNat = true) : s.drop n k co = (noneW (r.clear co.toNat).w, 0, ⟨s.es, updI s.F k (some (r.drop co.toNat))⟩) := by
  unfold Ms.drop
  have hr : ruO (some r) = r := rfl
  rw [if_neg (by omega), h, hr, if_neg (by omega), if_neg (by
    rintro (h1 | h1 | h1)
    · omega
    · omega
    · rw [hw] at h1; cases h1)]
theorem swept_none {k : Int} (hk : 0 ≤ k ∧ k < s.es.length) (h : s.F k = none) : s.swept k = (Td.zero, 16, s) := by
  unfold Ms.swept
  rw [if_neg (by omega), h, if_pos (by decide)]
theorem swept_run {k : Int} (hk : 0 ≤ k ∧ k < s.es.length) {r : Ru} (h : s.F k = some r) (hp : r.ph = 2) : s.swept k = (⟨r.a, r.th, r.sc⟩, 0, ⟨s.es.set k.toNat (r.th, false), updI s.F k none⟩) := by
  unfold Ms.swept
  have hr : ruO (some r) = r := rfl
  rw [if_neg (by omega), h, hr, if_neg (by omega)]
end
theorem updI_two {α : Type} (F : Int → Option α) (k : Int) (x y : Option α) : updI (updI F k x) k y = updI F k y := by
  funext i
  unfold updI
  split <;> rfl
theorem updI_swap {α : Type} (F : Int → Option α) {k l : Int} (x y : Option α) (h : k ≠ l) : updI (updI F k x) l y = updI (updI F l y) k x := by
  funext i
  unfold updI
  by_cases h1 : i = k
  · subst h1
    rw [if_neg h, if_pos rfl, if_pos rfl]
  · by_cases h2 : i = l
    · subst h2
      rw [if_pos rfl, if_neg h1, if_pos rfl]
    · rw [if_neg h2, if_neg h1, if_neg h1, if_neg h2]
theorem updI_none (k : Int) : updI (fun _ => (none : Option Ru)) k none = fun _ => none := by
  funext i
  unfold updI
  split <;> rfl
/-- What becomes of one granule when two cores drop it. -/
theorem drops2 {s : Ms} {k c d : Int} (hk : 0 ≤ k ∧ k < s.es.length) (a : Ak) (th : Int) (sc : Bool) (hF : s.F k = some ⟨a, th, sc, 1, fun i => decide ((i : Int) < 2)⟩) (hcd : (c = 0 ∧ d = 1) ∨ (c = 1 ∧ d = 0)) :
    ∃ r1 r2 : Ru, (s.drop 2 k c).2.2 = ⟨s.es, updI s.F k (some r1)⟩ ∧ r1.a = a ∧ (∀ s' : Ms, s'.F k = some r1 → s'.es.length = s.es.length → (s'.drop 2 k d).2.2 = ⟨s'.es, updI s'.F k (some r2)⟩) ∧ r2.a = a ∧ r2.th = th ∧ r2.sc = sc ∧ r2.ph = 2 := by
  rcases hcd with ⟨rfl, rfl⟩ | ⟨rfl, rfl⟩
  · have h1 := drop_run (n := 2) (co := 0) hk hF rfl (by omega) rfl
    refine ⟨_, _, by rw [h1], rfl, fun s' h2 h3 => by rw [drop_run (n := 2) (co := 1) (by omega) h2 rfl (by omega) rfl], rfl, rfl, rfl, rfl⟩
  · have h1 := drop_run (n := 2) (co := 1) hk hF rfl (by omega) rfl
    refine ⟨_, _, by rw [h1], rfl, fun s' h2 h3 => by rw [drop_run (n := 2) (co := 0) (by omega) h2 rfl (by omega) rfl], rfl, rfl, rfl, rfl⟩

end Go.Proofs.Ytjggnhcdnfmmeaa
