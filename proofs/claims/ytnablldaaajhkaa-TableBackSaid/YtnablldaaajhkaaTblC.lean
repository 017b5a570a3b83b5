/- What this text holds: a copy of a table, a word of a table, an entry as the document has it. No condition. -/
import Derived.Test.YtnablldaaajhkaaTblA
import Derived.Lib.SliceRun
namespace Go.Proofs.Ytnablldaaajhkaa
open Go.RowKit

/-- Entries' cells. -/
def flatE (es : List En) : List Value := es.flatMap fun x => [.int .i64 x.1, .bool x.2]
theorem flat_len (es : List En) : (flatE es).length = es.length * 2 := by
  induction es with
  | nil => rfl
  | cons x xs ih => simp [flatE] at ih ⊢; omega
theorem flat_at (es : List En) : ∀ i, i < es.length → (flatE es)[i * 2]? = some (.int .i64 (atE es i).1) ∧ (flatE es)[i * 2 + 1]? = some (.bool (atE es i).2) := by
  induction es with
  | nil => intro i hi; simp at hi
  | cons x xs ih =>
    intro i hi
    cases i with
    | zero => exact ⟨rfl, rfl⟩
    | succ i =>
      obtain ⟨h1, h2⟩ := ih i (by simpa using hi)
      constructor
      · rw [Nat.succ_mul]
        simpa [flatE, atE] using h1
      · rw [Nat.succ_mul]
        simpa [flatE, atE] using h2
theorem flat_one (es : List En) : ∀ u ∈ flatE es, u.oneCell' = true := by
  intro u hu
  simp only [flatE, List.mem_flatMap] at hu
  obtain ⟨x, _, hx⟩ := hu
  simp at hx
  rcases hx with rfl | rfl <;> rfl
theorem Tb.cells {w : World} {p g : Nat} {es : List En} (h : Tb w p g es) : ∀ j u, (flatE es)[j]? = some u → w.cell? ((⟨g, 0, none⟩ : Addr).add j) = some u := by
  intro j u hu
  have hj : j < es.length * 2 := by rw [← flat_len]; exact (List.getElem?_eq_some_iff.1 hu).1
  rw [Addr.add_lit, Nat.zero_add]
  obtain ⟨a, b⟩ := flat_at es (j / 2) (by omega)
  rcases Nat.mod_two_eq_zero_or_one j with h0 | h1
  · have e : j = j / 2 * 2 := by omega
    rw [e] at hu ⊢
    rw [a] at hu
    rw [h.go _ (by omega), ← hu]
  · have e : j = j / 2 * 2 + 1 := by omega
    rw [e] at hu ⊢
    rw [b] at hu
    rw [h.gb _ (by omega), ← hu]

set_option maxRecDepth 100000 in
theorem clone_any (p g c : Nat) (es : List En) (w : World) (h : Tb w p g es) (h1 : 1 ≤ es.length) (hn : es.length ≤ 16) :
    Calls Try.prog 50 #[.slice (some ⟨g, 0, none⟩) es.length c] w fun e w' => ∃ v, e = .returned v ∧ w'.ownsRow w.heap.size 57 2 v es.length (flatE es) ∧ Below w.heap.size w w' := by
  obtain ⟨i0, hi, hz0, hz1, hz2⟩ := info_parts info_entry
  have H := Lib.hid h
  have hgl := h.gl
  clear h
  have hnil := fun wx => Lib.run_eql_slice_nil (P := Try.prog) wx 96 57 (some ⟨g, 0, none⟩) es.length c 0 0 Try.underlying96
  go_enter Try.func50, Try.ntmps50
  go_wp2_with (at_builtin; refine wpList_append_own _ rfl _ _ 96 rfl w.heap.size 57 i0 (.agg #[.int .i64 0, .bool false]) 2 16 Try.underlying96 hi hz0 hz1 hz2 rfl (by decide) _ _ _ rfl (World.ownsRow_made w #[] 0 (Nat.le_refl _) (Nat.zero_le _) rfl) ⟨g, 0, none⟩ es.length c (flatE es) rfl (flat_len es) ?c1 ?c2 ?c3 ?c4 ?c5 ?_)
  case c1 => exact (H.out.ext ((Below.refl _ _).alloc (Nat.le_refl _) _)).cells
  case c2 => exact flat_one es
  case c3 => unfold maxLen; omega
  case c4 => omega
  case c5 => simp
  intro v' w1 hown hgrow _
  have HO : Hid (w1.ownsRow w.heap.size 57 2 v' es.length (flatE es)) := Lib.hid (by simpa using hown)
  have HB : Hid (Below w.heap.size w w1) := Lib.hid (((Below.refl w.heap.size w).alloc (Nat.le_refl _) (.cells #[] 57)).grown hgrow (by simp) (fun k hk => by simp [Value.ownBlock] at hk; omega))
  clear hown hgrow hnil
  go_wp2_with fail
  go_ret
  exact ⟨v', rfl, HO.out, HB.out⟩

theorem rb_of_row {w : World} {base n : Nat} {e : TypeId} {v : Value} {es : List En} (h : w.ownsRow base e 2 v n (flatE es)) (hn : n = es.length) (h1 : 1 ≤ n) :
    ∃ g c, v = .slice (some ⟨g, 0, none⟩) n c ∧ n ≤ c ∧ base ≤ g ∧ g < w.heap.size ∧ (∀ i, i < es.length → w.cell? ⟨g, i * 2, none⟩ = some (.int .i64 (atE es i).1)) ∧ (∀ i, i < es.length → w.cell? ⟨g, i * 2 + 1, none⟩ = some (.bool (atE es i).2)) ∧ ∀ i, w.frozen? ⟨g, i, none⟩ = false := by
  rcases h.2 with ⟨_, h0⟩ | ⟨g, cap, cur, hv, hb, hg, hc1, hc2, hc3, hc4⟩
  · omega
  · have key : ∀ j u, (flatE es)[j]? = some u → w.cell? ⟨g, j, none⟩ = some u := by
      intro j u hu
      have hj : j < n * 2 := by rw [hn, ← flat_len]; exact (List.getElem?_eq_some_iff.1 hu).1
      rw [← hc4, List.getElem?_take, if_pos hj] at hu
      unfold World.cell?
      rw [hg]
      simpa using hu
    refine ⟨g, cap, hv, hc1, hb, (Array.getElem?_eq_some_iff.1 hg).1, fun i hi => key _ _ (flat_at es i hi).1, fun i hi => key _ _ (flat_at es i hi).2, fun i => ?_⟩
    unfold World.frozen?
    rw [hg]
    simp

set_option maxRecDepth 100000 in
theorem copy_any (p g : Nat) (es : List En) (w : World) (h : Tb w p g es) (h1 : 1 ≤ es.length) (hn : es.length ≤ 16) :
    Calls Try.prog 38 #[.pointer (some ⟨p, 0, none⟩)] w fun e w' => ∃ p' g', e = .returned (.pointer (some ⟨p', 0, none⟩)) ∧ Tb w' p' g' es ∧ w.heap.size ≤ p' ∧ w.heap.size ≤ g' ∧ Below w.heap.size w w' := by
  obtain ⟨c, hcl, hc⟩ := h.pc
  have hpl := h.pl
  have H := Lib.hid h
  clear h
  go_enter Try.func38, Try.ntmps38
  go_wp2_with fail
  refine (clone_any p g c es _ H.out h1 hn).mono ?_
  rintro e w1 ⟨v, rfl, hown, hb1⟩
  obtain ⟨g', c', rfl, hcc, hbg, hgl, k0, k1, kf⟩ := rb_of_row hown rfl h1
  have K := Lib.hid (And.intro k0 (And.intro k1 kf))
  have HB := Lib.hid hb1
  clear k0 k1 kf hown hb1
  go_wp2_with fail
  go_ret
  have bn := (Below.refl w1.heap.size w1).alloc (Nat.le_refl _) (.cells #[.slice (some ⟨g', 0, none⟩) es.length c'] 98)
  refine ⟨_, g', rfl, ⟨by omega, by simp, by simp; omega, ⟨c', hcc, ?_⟩, fun i hi => ?_, fun i hi => ?_, fun i => ?_⟩, HB.out.size, hbg, HB.out.alloc HB.out.size _⟩
  · simp [World.cell?_alloc_at]
  · exact (bn.cell (p := ⟨g', i * 2, none⟩) hgl).trans (K.out.1 i hi)
  · exact (bn.cell (p := ⟨g', i * 2 + 1, none⟩) hgl).trans (K.out.2.1 i hi)
  · exact (bn.frozen (p := ⟨g', i, none⟩) hgl).trans (K.out.2.2 i)

set_option maxRecDepth 100000 in
theorem word_yes (p g : Nat) (es : List En) (i : Int) (w : World) (h : Tb w p g es) (hn : es.length ≤ 16) (hgood : Good es) (h0 : 0 ≤ i) (h1 : i < (wordsOf es).length) :
    Calls Try.prog 34 #[.pointer (some ⟨p, 0, none⟩), .int .i64 i] w fun e w' => e = .returned (.tuple #[.int .i64 ((wordsOf es)[i.toNat]?.getD 0), .int .i64 0]) ∧ Below w.heap.size w w' := by
  obtain ⟨k, rfl⟩ := Int.eq_ofNat_of_zero_le h0
  have hk : k < (wordsOf es).length := by omega
  have H := Lib.hid h
  have HG := Lib.hid hgood
  clear h hgood
  have hl : (wordsOf es).length ≤ 20 := by simp [wordsOf, ngr]; omega
  generalize hws : wordsOf es = ws at *
  have HW := Lib.hid hws
  clear hws
  have e0 : decide ((k : Int) < 0) = false := by simp
  have e1 : decide ((k : Int) ≥ (ws.length : Int)) = false := by simp; omega
  go_enter Try.func34, Try.ntmps34
  go_wp2_with fail
  have hW := words_any p g es _ H.out hn HG.out
  rw [HW.out] at hW
  refine hW.mono ?_
  clear hW
  rintro e w1 ⟨A, cap, rfl, hsl, _, hb1⟩
  obtain ⟨b, off, rfl, hbl, hcell⟩ := hsl (by omega)
  have hx := hcell k hk
  have HB := Lib.hid hb1
  clear hcell hb1
  go_wp2_with fail
  go_ret2
  refine ⟨?_, HB.out⟩
  simp [List.getElem?_eq_getElem hk]

set_option maxRecDepth 100000 in
theorem word_no (p g : Nat) (es : List En) (i : Int) (w : World) (h : Tb w p g es) (hn : es.length ≤ 16) (hgood : Good es) (h0 : i < 0 ∨ (wordsOf es).length ≤ i) :
    Calls Try.prog 34 #[.pointer (some ⟨p, 0, none⟩), .int .i64 i] w fun e w' => e = .returned (.tuple #[.int .i64 0, .int .i64 10]) ∧ Below w.heap.size w w' := by
  have H := Lib.hid h
  have HG := Lib.hid hgood
  clear h hgood
  generalize hws : wordsOf es = ws at *
  have HW := Lib.hid hws
  have hW := words_any p g es w H.out hn HG.out
  rw [hws] at hW
  clear hws
  have HH := Lib.hid hW
  clear hW
  by_cases hi : i < 0
  · clear h0
    go_enter Try.func34, Try.ntmps34
    go_wp2_with fail
    refine HH.out.mono ?_
    rintro e w1 ⟨A, cap, rfl, hsl, _, hb1⟩
    have HB := Lib.hid hb1
    clear hsl hb1
    go_wp2_with fail
    go_ret2
    exact ⟨rfl, HB.out⟩
  · have h1 : (ws.length : Int) ≤ i := by omega
    have e0 : decide (i < 0) = false := by simp; omega
    have e1 : decide (i ≥ (ws.length : Int)) = true := by simp; omega
    clear h0
    go_enter Try.func34, Try.ntmps34
    go_wp2_with fail
    refine HH.out.mono ?_
    rintro e w1 ⟨A, cap, rfl, hsl, _, hb1⟩
    have HB := Lib.hid hb1
    clear hsl hb1
    go_wp2_with fail
    go_ret2
    exact ⟨rfl, HB.out⟩

theorem plainE_any (o : Int) (l : Bool) (w : World) : Calls Try.prog 46 #[.agg #[.int .i64 o, .bool l]] w fun e w' => e = .returned (.agg #[.int .i64 o, .bool l]) ∧ Below w.heap.size w w' := by
  go_enter Try.func46, Try.ntmps46
  go_wp2
  (try simp only [Exit.inBlock, Exit.then]); refine bodyPost_ret (by simp [results, Try.results46, go_sem]; try rfl) rfl ?_
  exact ⟨rfl, (by repeat (with_reducible first | exact Below.refl _ _ | assumption | (refine ext_next (by assumption) ?_) | apply ext_alloc | apply ext_past | apply ext_drew | apply ext_drewN))⟩

end Go.Proofs.Ytnablldaaajhkaa
