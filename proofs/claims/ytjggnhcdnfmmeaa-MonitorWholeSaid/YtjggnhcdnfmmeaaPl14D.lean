/- What this text holds: the law MonitorWhole in plain words. No condition. -/
import Derived.Test.YtjggnhcdnfmmeaaPl14B
namespace Go.Proofs.Ytjggnhcdnfmmeaa
open Go.RowKit Go.Maps

/-- The cores that are waited for, when the core c and the k - 1 behind it have dropped. -/
def wtW (c k : Nat) : Nat → Bool := fun i => decide ((i : Int) < 4) && !((List.range k).any fun j => (c + j) % 4 == i)
theorem wtW_next (c k : Nat) : (fun i => if i = (c + k) % 4 then false else wtW c k i) = wtW c (k + 1) := by
  funext i
  unfold wtW
  rw [List.range_succ, List.any_append]
  by_cases h : i = (c + k) % 4
  · rw [if_pos h]
    simp [h]
  · rw [if_neg h]
    have h2 : ((c + k) % 4 == i) = false := by simpa using fun e => h e.symm
    simp [h2]
theorem wtW_zero (c : Nat) : (fun i : Nat => decide ((i : Int) < 4)) = wtW c 0 := by
  funext i
  simp [wtW]
/-- The run, k cores having dropped. -/
def ruK (a : Ak) (th : Int) (sc : Bool) (c k : Nat) : Ru := ⟨a, th, sc, if k < 4 then 1 else 2, wtW c k⟩
theorem four {k : Nat} (h : k < 4) : k = 0 ∨ k = 1 ∨ k = 2 ∨ k = 3 := by omega
theorem ruK_w {c k : Nat} (hc : c < 4) (hk : k < 4) : wtW c k ((c + k) % 4) = true ∧ wtW c (k + 1) ((c + k) % 4) = false ∧ noneW (wtW c (k + 1)) = decide (k = 3) := by
  rcases four hc with rfl | rfl | rfl | rfl <;> rcases four hk with rfl | rfl | rfl | rfl <;> decide
theorem ruK_drop (a : Ak) (th : Int) (sc : Bool) {c k : Nat} (hc : c < 4) (hk : k < 4) : (ruK a th sc c k).drop ((c + k) % 4) = ruK a th sc c (k + 1) ∧ noneW ((ruK a th sc c k).clear ((c + k) % 4)).w = decide (k = 3) := by
  have h1 : ((ruK a th sc c k).clear ((c + k) % 4)).w = wtW c (k + 1) := wtW_next c k
  have h2 := (ruK_w hc hk).2.2
  refine ⟨?_, by rw [h1, h2]⟩
  unfold Ru.drop
  rw [h1, h2]
  by_cases h : k = 3
  · subst h
    show Ru.mk a th sc 2 _ = ruK a th sc c 4
    have h3 : ((ruK a th sc c 3).clear ((c + 3) % 4)).w = wtW c 4 := wtW_next c 3
    rw [h3]
    rfl
  · have h4 : k + 1 < 4 := by omega
    rw [decide_eq_false h, if_neg (by simp)]
    have e1 : (ruK a th sc c k).clear ((c + k) % 4) = Ru.mk a th sc 1 (wtW c (k + 1)) := by
      unfold Ru.clear ruK
      rw [if_pos hk]
      dsimp only
      rw [wtW_next]
    rw [e1]
    unfold ruK
    rw [if_pos h4]
/-- The state with k drops. -/
def stK (es : List En) (F : Int → Option Ru) (a : Ak) (th : Int) (sc : Bool) (c k : Nat) : Ms := ⟨es, updI F a.gr (some (ruK a th sc c k))⟩
section
variable {es : List En} {F : Int → Option Ru} {a : Ak} {th : Int} {sc : Bool} {c k : Nat}
theorem stK_same : (stK es F a th sc c k).F a.gr = some (ruK a th sc c k) := updI_same _ _ _
theorem stK_ne {i : Int} (h : i ≠ a.gr) : (stK es F a th sc c k).F i = F i := updI_ne _ _ h
theorem stK_drop (hg : 0 ≤ a.gr ∧ a.gr < es.length) (hc : c < 4) (hk : k < 4) : (stK es F a th sc c k).drop 4 a.gr (((c + k) % 4 : Nat) : Int) = (decide (k = 3), 0, stK es F a th sc c (k + 1)) := by
  have h := drop_run (s := stK es F a th sc c k) (n := 4) (k := a.gr) (co := (((c + k) % 4 : Nat) : Int)) hg (r := ruK a th sc c k) (updI_same _ _ _) (by unfold ruK; exact if_pos hk) (by omega) (by simp only [Int.toNat_natCast]; exact (ruK_w hc hk).1)
  rw [h]
  simp only [Int.toNat_natCast]
  rw [(ruK_drop a th sc hc hk).1, (ruK_drop a th sc hc hk).2]
  unfold stK
  rw [updI_two]
theorem stK_again (hg : 0 ≤ a.gr ∧ a.gr < es.length) (hc : c < 4) (hk : k < 4) : ∃ r, r ≠ 0 ∧ (stK es F a th sc c (k + 1)).drop 4 a.gr (((c + k) % 4 : Nat) : Int) = (false, r, stK es F a th sc c (k + 1)) := by
  have hF : (stK es F a th sc c (k + 1)).F a.gr = some (ruK a th sc c (k + 1)) := updI_same _ _ _
  have hr : ruO (some (ruK a th sc c (k + 1))) = ruK a th sc c (k + 1) := rfl
  have hg' : ¬ (a.gr < 0 ∨ (stK es F a th sc c (k + 1)).es.length ≤ a.gr) := by
    show ¬ (a.gr < 0 ∨ (es.length : Int) ≤ a.gr)
    omega
  by_cases h : k = 3
  · subst h
    exact ⟨16, by decide, by unfold Ms.drop; rw [if_neg hg', hF, hr, if_pos (by show (2 : Int) ≠ 1; decide)]⟩
  · refine ⟨12, by decide, ?_⟩
    unfold Ms.drop
    rw [if_neg hg', hF, hr, if_neg (by unfold ruK; rw [if_pos (by omega)]; simp), if_pos (.inr (.inr (by simp only [Int.toNat_natCast]; exact (ruK_w hc hk).2.1)))]
theorem stK_swept (hg : 0 ≤ a.gr ∧ a.gr < es.length) : (stK es F a th sc c 4).swept a.gr = (⟨a, th, sc⟩, 0, ⟨es.set a.gr.toNat (th, false), updI F a.gr none⟩) := by
  have h := swept_run (s := stK es F a th sc c 4) (k := a.gr) hg (r := ruK a th sc c 4) (updI_same _ _ _) rfl
  rw [h]
  unfold stK
  rw [updI_two]
  rfl
end
/-- A call that is right, at the beginning. -/
theorem whole_law {os : List Int} {a : Ak} (h : ((newS os).call 4 a).1 = 0) (c : Nat) : ∃ th sc, 0 ≤ a.co ∧ a.co < 4 ∧ 0 ≤ a.gr ∧ a.gr < (os.length : Int) ∧ judge a.ca a.wo (atE (newS os).es a.gr.toNat).1 a.to = (th, sc, 0) ∧ ((newS os).call 4 a).2 = stK ((newS os).es.set a.gr.toNat ((atE (newS os).es a.gr.toNat).1, true)) (fun _ => none) a th sc c 0 := by
  by_cases c1 : a.co < 0 ∨ 4 ≤ a.co
  · unfold Ms.call at h; rw [if_pos c1] at h; exact absurd h (by show (1 : Int) ≠ 0; decide)
  by_cases c2 : a.gr < 0 ∨ (newS os).es.length ≤ a.gr
  · unfold Ms.call at h; rw [if_neg c1, if_pos c2] at h; exact absurd h (by show (10 : Int) ≠ 0; decide)
  have hl : (newS os).es.length = os.length := by simp [newS]
  have hb : busyC (newS os).F a.co = false := busy_no (fun k r hr => by cases hr)
  obtain ⟨⟨th, sc, er⟩, hj⟩ : ∃ j, judge a.ca a.wo (atE (newS os).es a.gr.toNat).1 a.to = j := ⟨_, rfl⟩
  by_cases c5 : er = 0
  · subst c5
    have hc := call_run (s := newS os) (n := 4) a (by omega) (by omega) rfl hb hj
    refine ⟨th, sc, by omega, by omega, by omega, by omega, hj, ?_⟩
    rw [hc]
    unfold stK ruK
    rw [if_pos (by decide), ← wtW_zero c]
    rfl
  · have hc := call_er (s := newS os) (n := 4) a (by omega) (by omega) rfl hb hj c5
    rw [hc] at h
    exact absurd h c5
section
variable {es : List En} {a : Ak} {th : Int} {sc : Bool} {c : Nat}
theorem stK_busy (hg : 0 ≤ a.gr ∧ a.gr < es.length) (o : Ak) (ho : 0 ≤ o.co ∧ o.co < 4 ∧ o.gr = a.gr) : (stK es (fun _ => none) a th sc c 0).call 4 o = (17, stK es (fun _ => none) a th sc c 0) := by
  unfold Ms.call
  rw [if_neg (by omega), if_neg (by show ¬ (o.gr < 0 ∨ (es.length : Int) ≤ o.gr); omega), if_pos (by rw [ho.2.2, stK_same]; rfl)]
theorem stK_state (hg : 0 ≤ a.gr ∧ a.gr < es.length) : (stK es (fun _ => none) a th sc c 0).swept a.gr = (Td.zero, 16, stK es (fun _ => none) a th sc c 0) := by
  unfold Ms.swept
  have hF : (stK es (fun _ => none) a th sc c 0).F a.gr = some (ruK a th sc c 0) := stK_same
  have hr : ruO (some (ruK a th sc c 0)) = ruK a th sc c 0 := rfl
  rw [if_neg (by show ¬ (a.gr < 0 ∨ (es.length : Int) ≤ a.gr); omega), hF, hr, if_pos (by show (1 : Int) ≠ 2; decide)]
theorem stK_there (hl : es.length ≤ 16) (hg : 0 ≤ a.gr ∧ a.gr < es.length) (o : Ak) (ho : 0 ≤ o.co ∧ o.co < 4 ∧ o.co = a.co) (h2 : 0 ≤ o.gr ∧ o.gr < es.length ∧ o.gr ≠ a.gr) : (stK es (fun _ => none) a th sc c 4).call 4 o = (13, stK es (fun _ => none) a th sc c 4) := by
  have hb : busyC (stK es (fun _ => none) a th sc c 4).F o.co = true := by
    unfold busyC
    rw [List.any_eq_true]
    refine ⟨a.gr.toNat, List.mem_range.2 (by omega), ?_⟩
    have e : ((a.gr.toNat : Nat) : Int) = a.gr := by omega
    rw [e, stK_same]
    show (a.co == o.co) = true
    rw [ho.2.2]
    simp
  unfold Ms.call
  rw [if_neg (by omega), if_neg (by show ¬ (o.gr < 0 ∨ (es.length : Int) ≤ o.gr); omega), stK_ne h2.2.2, if_neg (by simp), if_pos hb]
end

end Go.Proofs.Ytjggnhcdnfmmeaa
