/- What this text holds: the law MonitorLocks in plain words; a monitor of the law's own; the example. No condition. -/
import Derived.Test.YtjggnhcdnfmmeaaMoN
namespace Go.Proofs.Ytjggnhcdnfmmeaa
open Go.RowKit Go.Maps

/-- A granule is locked just where a call of it runs. -/
def Ms.lk (s : Ms) : Prop := ∀ k : Nat, k < s.es.length → (atE s.es k).2 = (s.F k).isSome
theorem lk_ph {s : Ms} (ok : s.ok) (h : s.lk) {k : Nat} (hk : k < s.es.length) : (atE s.es k).2 = ((ruO (s.F k)).ph != 0) := by
  rw [h k hk]
  cases hF : s.F (k : Int) with
  | none => rfl
  | some r =>
    have := (ok.run _ _ hF).2.2.2.1
    rcases this with h1 | h1 <;> simp [ruO, h1]
theorem lk_new (os : List Int) : (newS os).lk := fun k hk => by
  have hk' : k < os.length := by simpa [newS] using hk
  simp [newS, atE, hk']
theorem atE_set (es : List En) (i k : Nat) (x : En) (hk : k < es.length) : atE (es.set i x) k = if i = k then x else atE es k := by
  unfold atE
  by_cases e : i = k
  · subst e
    simp [hk]
  · rw [if_neg e, List.getElem?_set_ne e]
/-- What a call of the law's list does: its code, the granule that may turn, who has it then, the state behind it. -/
def stepL (s : Ms) (ask : Int) (a : Ak) (g co : Int) : Int × Int × Int × Ms :=
  if ask = 0 then ((s.call 3 a).1, a.gr, 0, (s.call 3 a).2)
  else if ask = 1 then ((s.drop 3 g co).2.1, -1, 0, (s.drop 3 g co).2.2)
  else ((s.swept g).2.1, g, (s.swept g).1.th, (s.swept g).2.2)
theorem step_law {s : Ms} (lk : s.lk) (ask : Int) (a : Ak) (g co tn : Int) (htn : tn = if (stepL s ask a g co).1 = 0 then (stepL s ask a g co).2.1 else -1) :
    (stepL s ask a g co).2.2.2.es.length = s.es.length ∧ (stepL s ask a g co).2.2.2.lk ∧ ∀ k : Nat, k < s.es.length → atE (stepL s ask a g co).2.2.2.es k = if (k : Int) = tn ∧ ask = 0 then ((atE s.es k).1, true) else if (k : Int) = tn then ((stepL s ask a g co).2.2.1, false) else atE s.es k := by
  have same : ∀ (tn : Int), tn = -1 → s.es.length = s.es.length ∧ s.lk ∧ ∀ (k : Nat), k < s.es.length → ∀ (x : Int), atE s.es k = if (k : Int) = tn ∧ ask = 0 then ((atE s.es k).1, true) else if (k : Int) = tn then (x, false) else atE s.es k := fun tn h => ⟨rfl, lk, fun k hk x => by rw [if_neg (by omega), if_neg (by omega)]⟩
  by_cases h0 : ask = 0
  · have e : stepL s ask a g co = ((s.call 3 a).1, a.gr, 0, (s.call 3 a).2) := by unfold stepL; rw [if_pos h0]
    rw [e] at htn ⊢
    dsimp only at htn ⊢
    have fail : ∀ r : Int, r ≠ 0 → s.call 3 a = (r, s) → (s.call 3 a).2.es.length = s.es.length ∧ (s.call 3 a).2.lk ∧ ∀ k : Nat, k < s.es.length → atE (s.call 3 a).2.es k = if (k : Int) = tn ∧ ask = 0 then ((atE s.es k).1, true) else if (k : Int) = tn then (0, false) else atE s.es k := fun r hr hc => by
      rw [hc] at htn ⊢
      rw [if_neg hr] at htn
      obtain ⟨h1, h2, h3⟩ := same tn htn
      exact ⟨h1, h2, fun k hk => h3 k hk 0⟩
    by_cases c1 : a.co < 0 ∨ 3 ≤ a.co
    · exact fail 1 (by decide) (by unfold Ms.call; rw [if_pos c1])
    by_cases c2 : a.gr < 0 ∨ s.es.length ≤ a.gr
    · exact fail 10 (by decide) (by unfold Ms.call; rw [if_neg c1, if_pos c2])
    by_cases c3 : (s.F a.gr).isSome
    · exact fail 17 (by decide) (by unfold Ms.call; rw [if_neg c1, if_neg c2, if_pos c3])
    by_cases c4 : busyC s.F a.co
    · exact fail 13 (by decide) (by unfold Ms.call; rw [if_neg c1, if_neg c2, if_neg c3, if_pos c4])
    by_cases c5 : (judge a.ca a.wo (atE s.es a.gr.toNat).1 a.to).2.2 ≠ 0
    · exact fail _ c5 (by unfold Ms.call; rw [if_neg c1, if_neg c2, if_neg c3, if_neg c4, if_pos c5])
    have hc : s.call 3 a = (0, ⟨s.es.set a.gr.toNat ((atE s.es a.gr.toNat).1, true), updI s.F a.gr (some ⟨a, (judge a.ca a.wo (atE s.es a.gr.toNat).1 a.to).1, (judge a.ca a.wo (atE s.es a.gr.toNat).1 a.to).2.1, 1, fun i => decide ((i : Int) < 3)⟩)⟩) := by unfold Ms.call; rw [if_neg c1, if_neg c2, if_neg c3, if_neg c4, if_neg c5]
    rw [hc] at htn ⊢
    dsimp only at htn ⊢
    rw [if_pos rfl] at htn
    refine ⟨by simp, fun k hk => ?_, fun k hk => ?_⟩
    · have hk' : k < s.es.length := by simpa using hk
      rw [atE_set _ _ _ _ hk']
      dsimp only
      by_cases e : a.gr.toNat = k
      · have e2 : (k : Int) = a.gr := by omega
        rw [if_pos e, e2, updI_same]
        rfl
      · rw [if_neg e, updI_ne _ _ (by omega)]
        exact lk k hk'
    · rw [atE_set _ _ _ _ hk]
      by_cases e : a.gr.toNat = k
      · rw [if_pos e, if_pos ⟨by omega, h0⟩, e]
      · rw [if_neg e, if_neg (by omega), if_neg (by omega)]
  by_cases h1 : ask = 1
  · have e : stepL s ask a g co = ((s.drop 3 g co).2.1, -1, 0, (s.drop 3 g co).2.2) := by unfold stepL; rw [if_neg h0, if_pos h1]
    rw [e] at htn ⊢
    dsimp only at htn ⊢
    have htn' : tn = -1 := by rw [htn]; split <;> rfl
    have key : (s.drop 3 g co).2.2.es = s.es ∧ (s.drop 3 g co).2.2.lk := by
      unfold Ms.drop
      split
      · exact ⟨rfl, lk⟩
      · split
        · exact ⟨rfl, lk⟩
        · split
          · exact ⟨rfl, lk⟩
          · rename_i d1 d2 d3
            refine ⟨rfl, fun k hk => ?_⟩
            show (atE s.es k).2 = (updI s.F g _ (k : Int)).isSome
            by_cases e : (k : Int) = g
            · rw [e, updI_same, lk k hk, e]
              cases hF : s.F g with
              | none => exfalso; apply d2; rw [hF]; decide
              | some r => rfl
            · rw [updI_ne _ _ e]
              exact lk k hk
    rw [key.1]
    exact ⟨rfl, key.2, fun k hk => by rw [if_neg (by omega), if_neg (by omega)]⟩
  · have e : stepL s ask a g co = ((s.swept g).2.1, g, (s.swept g).1.th, (s.swept g).2.2) := by unfold stepL; rw [if_neg h0, if_neg h1]
    rw [e] at htn ⊢
    dsimp only at htn ⊢
    unfold Ms.swept at htn ⊢
    split
    · rename_i d1
      rw [if_pos d1] at htn
      obtain ⟨h1, h2, h3⟩ := same tn htn
      exact ⟨h1, h2, fun k hk => h3 k hk _⟩
    · rename_i d1
      rw [if_neg d1] at htn
      split
      · rename_i d2
        rw [if_pos d2] at htn
        obtain ⟨h1, h2, h3⟩ := same tn htn
        exact ⟨h1, h2, fun k hk => h3 k hk _⟩
      · rename_i d2
        rw [if_neg d2] at htn
        dsimp only at htn ⊢
        rw [if_pos rfl] at htn
        refine ⟨by simp, fun k hk => ?_, fun k hk => ?_⟩
        · have hk' : k < s.es.length := by simpa using hk
          rw [atE_set _ _ _ _ hk']
          dsimp only
          by_cases e : g.toNat = k
          · have e2 : (k : Int) = g := by omega
            rw [if_pos e, e2, updI_same]
            rfl
          · rw [if_neg e, updI_ne _ _ (by omega)]
            exact lk k hk'
        · rw [atE_set _ _ _ _ hk]
          by_cases e : g.toNat = k
          · rw [if_pos e, if_neg (by omega), if_pos (by omega)]
          · rw [if_neg e, if_neg (by omega), if_neg (by omega)]

/-- A monitor of the law's own. -/
structure Mw (w W : World) (B p t g b : Nat) (n : Int) (M : Nat) (s : Ms) : Prop where
  mn : Mn W B p t g b n M s
  be : Below w.heap.size w W
  lo : w.heap.size ≤ B
section
variable {w W W' : World} {B p t g b M M' : Nat} {n : Int} {s s' : Ms}
theorem Mw.ext (h : Mw w W B p t g b n M s) (hb : Below W.heap.size W W') : Mw w W' B p t g b n M s := ⟨h.mn.ext hb, ext_trans h.be hb, h.lo⟩
theorem Mw.go (h : Mw w W B p t g b n M s) (h1 : Mn W' B p t g b n M' s') (h2 : Gt W W' g b) : Mw w W' B p t g b n M' s' :=
  ⟨h1, h2.below h.be (Nat.le_trans h.lo h.mn.lo.2.2.1) (Nat.le_trans h.lo h.mn.lo.2.2.2), h.lo⟩
theorem Mw.call (h : Mw w W B p t g b n M s) (hM : M < 1000) (a : Ak) (r : Int) (hr : (s.call n a).1 = r) (x : Bool) (hx : (r == 0) = x) : Calls Try.prog 30 #[.pointer (some ⟨p, 0, none⟩), a.val] W fun e W' => e = .returned (.tuple #[.bool x, .int .i64 r]) ∧ Mw w W' B p t g b n (M + 1) (s.call n a).2 ∧ Gt W W' g b := by
  refine (mcall_any h.mn hM a).mono fun e W' ⟨he, h1, h2⟩ => ⟨?_, h.go h1 h2, h2⟩
  rw [he, hr, hx]
theorem Mw.drop (h : Mw w W B p t g b n M s) (hM : M < 1000) (k co : Int) (x : Bool) (r : Int) (hx : (s.drop n k co).1 = x) (hr : (s.drop n k co).2.1 = r) : Calls Try.prog 31 #[.pointer (some ⟨p, 0, none⟩), .int .i64 k, .int .i64 co] W fun e W' => e = .returned (.tuple #[.bool x, .int .i64 r]) ∧ Mw w W' B p t g b n (M + 1) (s.drop n k co).2.2 ∧ Gt W W' g b := by
  refine (mdrop_any h.mn hM k co).mono fun e W' ⟨he, h1, h2⟩ => ⟨?_, h.go h1 h2, h2⟩
  rw [he, hr, hx]
theorem Mw.swept (h : Mw w W B p t g b n M s) (k : Int) (x : Td) (r : Int) (hx : (s.swept k).1 = x) (hr : (s.swept k).2.1 = r) : Calls Try.prog 32 #[.pointer (some ⟨p, 0, none⟩), .int .i64 k] W fun e W' => e = .returned (.tuple #[x.val, .int .i64 r]) ∧ Mw w W' B p t g b n M (s.swept k).2.2 ∧ Gt W W' g b := by
  refine (mswept_any h.mn k).mono fun e W' ⟨he, h1, h2⟩ => ⟨?_, h.go h1 h2, h2⟩
  rw [he, hr, hx]
end
def aw0 : Ms := newS [0, 1]
def ak1 : Ak := ⟨0, 0, 1, 0, 2⟩
def ak2 : Ak := ⟨1, 1, 2, 0, 0⟩
def aw1 : Ms := (aw0.call 2 ak1).2
def aw2 : Ms := (aw1.call 2 ak2).2
def aw3 : Ms := (aw2.drop 2 0 1).2.2
def aw4 : Ms := (aw3.drop 2 0 0).2.2
theorem aw_new : newM 2 [0, 1] = 0 := by decide
theorem aw_c1 : (aw0.call 2 ak1).1 = 0 := by decide
theorem aw_c2 : (aw1.call 2 ak2).1 = 17 := by decide
theorem aw_d1 : (aw2.drop 2 0 1).1 = false ∧ (aw2.drop 2 0 1).2.1 = 0 := by decide
theorem aw_d2 : (aw3.drop 2 0 0).1 = true ∧ (aw3.drop 2 0 0).2.1 = 0 := by decide
theorem aw_s1 : (aw4.swept 0).1 = ⟨ak1, 2, true⟩ ∧ (aw4.swept 0).2.1 = 0 := by decide
theorem two_new (w : World) (t : TypeId) (x y : Int) (g : Nat) (hg : g = w.heap.size) : SlI (w.alloc (.cells #[.int .i64 x, .int .i64 y] t)) (some ⟨g, 0, none⟩) [x, y] := fun _ => by
  have h : (w.alloc (.cells #[.int .i64 x, .int .i64 y] t)).heap[g]? = some (.cells #[.int .i64 x, .int .i64 y] t (0, 0)) := by rw [hg]; exact alNew rfl
  refine ⟨g, 0, rfl, lt_of h, fun i hi => ?_⟩
  have h1 : i = 0 ∨ i = 1 := by simp at hi; omega
  rcases h1 with rfl | rfl <;> simp [World.cell?, h]
set_option maxRecDepth 100000 in
set_option maxHeartbeats 8000000 in
theorem awake14 (w : World) : Calls Try.prog 29 #[] w fun e w' => e = .returned (.bool true) ∧ Below w.heap.size w w' := by
  go_enter Try.func29, Try.ntmps29
  go_wp2_with fail
  refine (mnew_any 2 _ _ [0, 1] (two_new _ _ _ _ _ rfl)).mono ?_
  rintro e w1 ⟨hb, h⟩
  rcases h with ⟨h0, _⟩ | ⟨_, p, t, g, b, rfl, hm⟩
  · exact absurd aw_new h0
  have h9 : (w.alloc (.cells #[.int .i64 0, .int .i64 1] 3)).heap.size = w.heap.size + 1 := by simp
  rw [h9] at hm
  have H1 : Hid (Mw w w1 (w.heap.size + 1) p t g b 2 0 aw0) := Lib.hid ⟨hm, ext_trans (ext_alloc (.cells #[.int .i64 0, .int .i64 1] 3) (Below.refl _ _)) hb, by omega⟩
  clear h9
  clear hb hm
  go_wp2_with fail
  refine (H1.out.call (by omega) ak1 0 aw_c1 true rfl).mono ?_
  rintro e w2 ⟨rfl, h2, _⟩
  have H2 : Hid (Mw w w2 (w.heap.size + 1) p t g b 2 1 aw1) := Lib.hid h2
  clear h2
  go_wp2_with fail
  refine (H2.out.call (by omega) ak2 17 aw_c2 false rfl).mono ?_
  rintro e w3 ⟨rfl, h3, _⟩
  have H3 : Hid (Mw w w3 (w.heap.size + 1) p t g b 2 2 aw2) := Lib.hid h3
  clear h3
  go_wp2_with fail
  refine (H3.out.drop (by omega) 0 1 false 0 aw_d1.1 aw_d1.2).mono ?_
  rintro e w4 ⟨rfl, h4, _⟩
  have H4 : Hid (Mw w w4 (w.heap.size + 1) p t g b 2 3 aw3) := Lib.hid h4
  clear h4
  go_wp2_with fail
  refine (H4.out.drop (by omega) 0 0 true 0 aw_d2.1 aw_d2.2).mono ?_
  rintro e w5 ⟨rfl, h5, _⟩
  have H5 : Hid (Mw w w5 (w.heap.size + 1) p t g b 2 4 aw4) := Lib.hid h5
  clear h5
  go_wp2_with fail
  refine (H5.out.swept 0 ⟨ak1, 2, true⟩ 0 aw_s1.1 aw_s1.2).mono ?_
  rintro e w6 ⟨rfl, h6, _⟩
  have HB := Lib.hid h6.be
  clear h6
  unfold Td.val ak1
  dsimp only
  go_wp2_with fail
  go_ret
  exact ⟨rfl, ext_trans HB.out (ext_alloc _ (Below.refl _ _))⟩

end Go.Proofs.Ytjggnhcdnfmmeaa
