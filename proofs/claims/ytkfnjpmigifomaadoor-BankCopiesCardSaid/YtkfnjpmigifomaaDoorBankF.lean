/- What this text holds: clones of banks and of lines; a copy that is being made. No condition. -/
import Derived.Test.YtkfnjpmigifomaaDoorBankE
namespace Go.Proofs.YtkfnjpmigifomaaDoor
open Go.RowKit

theorem own_full {w : World} {base e size q n c : Nat} {xs : List Value} (h : w.ownsRow base e size (.slice (some ⟨q, 0, none⟩) n c) n xs) : ∀ j u, xs[j]? = some u → w.cell? ((⟨q, 0, none⟩ : Addr).add j) = some u := by
  intro j u hu
  rw [Addr.add_lit, Nat.zero_add]
  exact own_cell h hu
set_option maxHeartbeats 1000000 in
theorem clone_bank {base q n c : Nat} {xs : List Value} (w : World) (h : w.ownsRow base 105 3 (.slice (some ⟨q, 0, none⟩) n c) n xs) (h1 : ∀ u ∈ xs, u.oneCell' = true) (hn : n ≤ 1000) :
    Calls Tryd.prog 63 #[.slice (some ⟨q, 0, none⟩) n c] w fun e w' => ∃ v, e = .returned v ∧ w'.ownsRow w.heap.size 105 3 v n xs ∧ Below w.heap.size w w' := by
  obtain ⟨i0, hi, hz0, hz1, hz2⟩ := info_parts info_bank
  have H := Lib.hid h
  have H1 := Lib.hid h1
  have hlen := h.1
  clear h h1
  have hnil := fun wx => Lib.run_eql_slice_nil (P := Tryd.prog) wx 97 105 (some ⟨q, 0, none⟩) n c 0 0 Tryd.underlying97
  go_enter Tryd.func63, Tryd.ntmps63
  go_wp2_with (at_builtin; refine wpList_append_own _ rfl _ _ 97 rfl w.heap.size 105 i0 (.agg #[.int .i64 0, .int .i64 0, .slice none 0 0]) 3 40 Tryd.underlying97 hi hz0 hz1 hz2 rfl (by decide) _ _ _ rfl (World.ownsRow_made w #[] 0 (Nat.le_refl _) (Nat.zero_le _) rfl) ⟨q, 0, none⟩ n c xs rfl hlen ?c1 ?c2 ?c3 ?c4 ?c5 ?_)
  case c1 => exact own_full (row_keep H.out (fun g hg => Below.heap_alloc _ _ _ (lt_own H.out hg)))
  case c2 => exact H1.out
  case c3 => unfold maxLen; omega
  case c4 => omega
  case c5 => simp
  intro v' w1 hown hgrow _
  have HO : Hid (w1.ownsRow w.heap.size 105 3 v' n xs) := Lib.hid (by simpa using hown)
  have HB : Hid (Below w.heap.size w w1) := Lib.hid (((Below.refl w.heap.size w).alloc (Nat.le_refl _) (.cells #[] 105)).grown hgrow (by simp) (fun k hk => by simp [Value.ownBlock] at hk; omega))
  clear hown hgrow hnil
  go_wp2_with fail
  go_ret
  exact ⟨_, rfl, HO.out, HB.out⟩
set_option maxHeartbeats 1000000 in
theorem clone_line {base n : Nat} {v : Value} {xs : List Value} (w : World) (h : w.ownsRow base 26 2 v n xs) (h1 : ∀ u ∈ xs, u.oneCell' = true) (hn : n ≤ 1000) :
    Calls Tryd.prog 64 #[v] w fun e w' => ∃ v', e = .returned v' ∧ w'.ownsRow w.heap.size 26 2 v' n xs ∧ Below w.heap.size w w' := by
  obtain ⟨i0, hi, hz0, hz1, hz2⟩ := info_parts info_line
  rcases h.2 with ⟨rfl, h0⟩ | ⟨q, c, cur, rfl, _⟩
  · have hx := h.1
    subst h0
    obtain rfl := List.eq_nil_of_length_eq_zero (by simpa using hx)
    clear h h1
    have hnil := fun wx => Lib.run_eql_slice_nil (P := Tryd.prog) wx 103 26 none 0 0 0 0 Tryd.underlying103
    go_enter Tryd.func64, Tryd.ntmps64
    go_wp2_with fail
    go_ret
    exact ⟨_, rfl, World.ownsRow_nil _ _ _ _, Below.refl _ _⟩
  · have H := Lib.hid h
    have H1 := Lib.hid h1
    have hlen := h.1
    clear h h1
    have hnil := fun wx => Lib.run_eql_slice_nil (P := Tryd.prog) wx 103 26 (some ⟨q, 0, none⟩) n c 0 0 Tryd.underlying103
    go_enter Tryd.func64, Tryd.ntmps64
    go_wp2_with (at_builtin; refine wpList_append_own _ rfl _ _ 103 rfl w.heap.size 26 i0 (.agg #[.int .i64 0, .int .i64 0]) 2 16 Tryd.underlying103 hi hz0 hz1 hz2 rfl (by decide) _ _ _ rfl (World.ownsRow_made w #[] 0 (Nat.le_refl _) (Nat.zero_le _) rfl) ⟨q, 0, none⟩ n c xs rfl hlen ?c1 ?c2 ?c3 ?c4 ?c5 ?_)
    case c1 => exact own_full (row_keep H.out (fun g hg => Below.heap_alloc _ _ _ (lt_own H.out hg)))
    case c2 => exact H1.out
    case c3 => unfold maxLen; omega
    case c4 => omega
    case c5 => simp
    intro v' w1 hown hgrow _
    have HO : Hid (w1.ownsRow w.heap.size 26 2 v' n xs) := Lib.hid (by simpa using hown)
    have HB : Hid (Below w.heap.size w w1) := Lib.hid (((Below.refl w.heap.size w).alloc (Nat.le_refl _) (.cells #[] 26)).grown hgrow (by simp) (fun k hk => by simp [Value.ownBlock] at hk; omega))
    clear hown hgrow hnil
    go_wp2_with fail
    go_ret
    exact ⟨_, rfl, HO.out, HB.out⟩

theorem tab_one {n : Nat} {h : Nat → Value} (e : ∀ k, k < n → (h k).oneCell' = true) : ∀ u ∈ tab n h, u.oneCell' = true := by
  intro u hu
  simp only [tab, List.mem_map, List.mem_range] at hu
  obtain ⟨k, hk, rfl⟩ := hu
  exact e k hk
theorem bank_one {w : World} {lo hi n p q : Nat} {R : Nat → Value} {m : Mm} (h : Bk w lo hi n p q R m) : ∀ u ∈ tab (m.nb * 3) (bankV m R), u.oneCell' = true := tab_one fun k hk => by
  unfold bankV
  split
  · rfl
  · split
    · rfl
    · obtain ⟨A, c, e, _⟩ := row_form (h.ln (k / 3) (by omega))
      rw [e]
      rfl
/-- A copy that is being made: the rows of the first i banks are its own. -/
structure Cp (w wr : World) (i lo hi p q p' q' cp : Nat) (R R' : Nat → Value) (m : Mm) : Prop where
  src : Bk wr lo hi m.n p q R m
  top : wr.heap[p']? = some (.cells #[.int .i64 m.c.co, .int .i64 m.c.gr, .int .i64 m.c.se, .int .i64 m.c.wa, .int .i64 m.c.de, .int .i64 m.c.en, .int .i64 m.c.ba, .slice (some ⟨q', 0, none⟩) m.nb cp] 99 (0, 0))
  row : wr.ownsRow w.heap.size 105 3 (.slice (some ⟨q', 0, none⟩) m.nb cp) m.nb (tab (m.nb * 3) (bankV m R'))
  old : ∀ j, i ≤ j → j < m.nb → R' j = R j
  new : ∀ j, j < i → j < m.nb → wr.ownsRow w.heap.size 26 2 (R' j) (cntB m.nb m.n j) (tab (cntB m.nb m.n j * 2) (lineV m.wd m.nb j))
  ap : ∀ j, j < i → j < m.nb → ∀ b, (R' j).ownBlock = some b → b ≠ p' ∧ b ≠ q' ∧ ∀ x, x < i → x < m.nb → x ≠ j → (R' x).ownBlock ≠ some b
  bd : w.heap.size ≤ p' ∧ w.heap.size ≤ q' ∧ p' ≠ q' ∧ p' < wr.heap.size ∧ q' < wr.heap.size
  hi' : hi ≤ w.heap.size
  be : Below w.heap.size w wr
/-- One bank more. -/
theorem cp_next {w a b : World} {i lo hi p q p' q' cp : Nat} {R R' : Nat → Value} {m : Mm} (h : Cp w a i lo hi p q p' q' cp R R' m) (hi2 : i < m.nb) (hb : Below a.heap.size a b) {v : Value}
    (ho : b.ownsRow a.heap.size 26 2 v (cntB m.nb m.n i) (tab (cntB m.nb m.n i * 2) (lineV m.wd m.nb i))) :
    Cp w (b.setCell ⟨q', i * 3 + 2, none⟩ v) (i + 1) lo hi p q p' q' cp R (updN R' i v) m := by
  obtain ⟨d1, d2, d3, d4, d5⟩ := h.bd
  have hsz := hb.size
  have hwa := h.be.size
  have keep : ∀ g, g < a.heap.size → g ≠ q' → (b.setCell ⟨q', i * 3 + 2, none⟩ v).heap[g]? = a.heap[g]? := fun g h1 h3 => (Below.heap_setCell _ _ _ _ h3).trans (hb.block g h1)
  have ge : ∀ g, v.ownBlock = some g → a.heap.size ≤ g := fun g hg => own_ge ho hg
  refine ⟨h.src.keep (fun k _ hk => keep k (by have := h.hi'; omega) (by have := h.hi'; omega)) (by simpa using hsz), (keep p' d4 d3).trans h.top, ?_, fun j h1 h2 => ?_, fun j h1 h2 => ?_, fun j h1 h2 g hg => ?_, ⟨d1, d2, d3, by simp; omega, by simp; omega⟩, h.hi', ?_⟩
  · have t3 := row_keep (w' := b) h.row fun g hgg => by
      obtain rfl := Option.some.inj hgg
      exact hb.block _ d5
    have e2 : (i * 3 + 2) / 3 = i := by omega
    have := own_set t3 (i * 3 + 2) v
    rw [tab_set (g := bankV m (updN R' i v)) (by simp [bankV, e2]) fun x _ hne => ?_] at this
    · exact this
    simp only [bankV]
    by_cases h0 : x % 3 = 0
    · rw [if_pos h0, if_pos h0]
    · rw [if_neg h0, if_neg h0]
      by_cases h1 : x % 3 = 1
      · rw [if_pos h1, if_pos h1]
      · rw [if_neg h1, if_neg h1, updN_ne _ _ (by omega)]
  · rw [updN_ne _ _ (by omega)]
    exact h.old j (by omega) h2
  · by_cases hji : j = i
    · subst hji
      rw [updN_same]
      exact row_keep (row_mono ho hwa) fun g hgg => Below.heap_setCell _ _ _ _ (by have := ge g hgg; show g ≠ q'; omega)
    · rw [updN_ne _ _ hji]
      have hj := h.new j (by omega) h2
      exact row_keep hj fun g hgg => keep g (lt_own hj hgg) (h.ap j (by omega) h2 g hgg).2.1
  · by_cases hji : j = i
    · subst hji
      rw [updN_same] at hg
      have := ge g hg
      refine ⟨by omega, by omega, fun x h3 h4 h5 e => ?_⟩
      rw [updN_ne _ _ h5] at e
      have := lt_own (h.new x (by omega) h4) e
      omega
    · rw [updN_ne _ _ hji] at hg
      have hj := lt_own (h.new j (by omega) h2) hg
      obtain ⟨u1, u2, u3⟩ := h.ap j (by omega) h2 g hg
      refine ⟨u1, u2, fun x h3 h4 h5 => ?_⟩
      by_cases hxi : x = i
      · subst hxi
        rw [updN_same]
        intro e
        have := ge g e
        omega
      · rw [updN_ne _ _ hxi]
        exact u3 x (by omega) h4 h5
  · have hbe := ext_trans h.be hb
    exact ⟨hbe.os, hbe.tape, hbe.output, by simpa using hbe.size, fun k hk => (Below.heap_setCell _ _ _ _ (by show k ≠ q'; omega)).trans (hbe.block k hk)⟩
theorem cp_end {w wr : World} {lo hi p q p' q' cp : Nat} {R R' : Nat → Value} {m : Mm} (h : Cp w wr m.nb lo hi p q p' q' cp R R' m) : Bm wr w.heap.size wr.heap.size p' m := by
  obtain ⟨d1, d2, d3, d4, d5⟩ := h.bd
  refine ⟨q', R', h.src.ok, ⟨cp, h.top, h.row⟩, fun j hj => h.new j hj hj, fun j hj b hb => ?_, ⟨d1, d4, d2, d5, d3⟩, Nat.le_refl _, ?_⟩
  · obtain ⟨u1, u2, u3⟩ := h.ap j hj hj b hb
    exact ⟨lt_own (h.new j hj hj) hb, u1, u2, fun x hx hxj => u3 x hx hx hxj⟩
  · have := h.src.gl
    have := h.hi'
    obtain ⟨e1, e2, _⟩ := h.src.bd
    omega
theorem top_at {W : World} {B : Nat} {a b c d e f g h : Value} {t : TypeId} {fr : Nat × Nat} (hh : W.heap[B]? = some (.cells #[a, b, c, d, e, f, g, h] t fr)) :
    W.cell? ⟨B, 0, none⟩ = some a ∧ W.cell? ⟨B, 1, none⟩ = some b ∧ W.cell? ⟨B, 2, none⟩ = some c ∧ W.cell? ⟨B, 3, none⟩ = some d ∧ W.cell? ⟨B, 4, none⟩ = some e ∧ W.cell? ⟨B, 5, none⟩ = some f ∧ W.cell? ⟨B, 6, none⟩ = some g ∧ W.cell? ⟨B, 7, none⟩ = some h := by
  simp [World.cell?, hh]
theorem form_pos {w : World} {base e size n : Nat} {v : Value} {xs : List Value} (h : w.ownsRow base e size v n xs) (hn : 1 ≤ n) : ∃ g c, v = .slice (some ⟨g, 0, none⟩) n c := by
  rcases h.2 with ⟨_, h0⟩ | ⟨g, cap, _, hv, _⟩
  · omega
  · exact ⟨g, cap, hv⟩
theorem row_at {w : World} {base q c i : Nat} {m : Mm} {R : Nat → Value} (h : w.ownsRow base 105 3 (.slice (some ⟨q, 0, none⟩) m.nb c) m.nb (tab (m.nb * 3) (bankV m R))) (hi : i < m.nb) : w.cell? ⟨q, i * 3 + 2, none⟩ = some (R i) := by
  have e2 : (i * 3 + 2) / 3 = i := by omega
  refine own_cell h ?_
  rw [tab_at _ (by omega)]
  simp [bankV, e2]
theorem bcopy_nil (w : World) : Calls Tryd.prog 15 #[.pointer none] w fun e w' => e = .returned (.pointer none) ∧ w' = w := by
  go_enter Tryd.func15, Tryd.ntmps15
  go_wp2
  go_ret
  exact ⟨rfl, rfl⟩
theorem cp_zero {w w2 : World} {lo hi p q q' cp : Nat} {R : Nat → Value} {m : Mm} (h : Bk w lo hi m.n p q R m) (hb : Below w.heap.size w w2) (hq : w.heap.size ≤ q') (ho : w2.ownsRow w.heap.size 105 3 (.slice (some ⟨q', 0, none⟩) m.nb cp) m.nb (tab (m.nb * 3) (bankV m R))) :
    Cp w (w2.alloc (.cells #[.int .i64 m.c.co, .int .i64 m.c.gr, .int .i64 m.c.se, .int .i64 m.c.wa, .int .i64 m.c.de, .int .i64 m.c.en, .int .i64 m.c.ba, .slice (some ⟨q', 0, none⟩) m.nb cp] 99)) 0 lo hi p q w2.heap.size q' cp R R m := by
  have hq2 : q' < w2.heap.size := lt_own ho rfl
  have hsz := hb.size
  exact ⟨(h.ext hb).ext (ext_alloc _ (Below.refl _ _)), alNew rfl, row_keep ho (fun g hg => Below.heap_alloc _ _ _ (lt_own ho hg)), fun _ _ _ => rfl, fun j hj => absurd hj (by omega), fun j hj => absurd hj (by omega),
    ⟨hsz, hq, by omega, by simp, by simp; omega⟩, h.sz, hb.alloc hsz _⟩
theorem Cp.ext {w a b : World} {i lo hi p q p' q' cp : Nat} {R R' : Nat → Value} {m : Mm} (h : Cp w a i lo hi p q p' q' cp R R' m) (hb : Below a.heap.size a b) : Cp w b i lo hi p q p' q' cp R R' m := by
  obtain ⟨d1, d2, d3, d4, d5⟩ := h.bd
  have := hb.size
  exact ⟨h.src.ext hb, (hb.block _ d4).trans h.top, row_keep h.row (fun g hg => hb.block g (lt_own h.row hg)), h.old, fun j h1 h2 => row_keep (h.new j h1 h2) (fun g hg => hb.block g (lt_own (h.new j h1 h2) hg)), h.ap, ⟨d1, d2, d3, by omega, by omega⟩, h.hi', ext_trans h.be hb⟩

end Go.Proofs.YtkfnjpmigifomaaDoor
