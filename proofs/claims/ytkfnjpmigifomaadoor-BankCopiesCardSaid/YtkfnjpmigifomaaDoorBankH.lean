/- What this text holds: a copy of all lines of a memory; whether two memories hold the same. Condition: the table of limits holds what its initialiser lays. -/
import Derived.Test.YtkfnjpmigifomaaDoorBankG
import Derived.ChangeKeysEq
namespace Go.Proofs.YtkfnjpmigifomaaDoor
open Go.RowKit

theorem mk_line (n : Nat) (hn : n ≤ 1000) (w : World) : (Instr.makeSlice 103 (.int .i64 n) (.int .i64 n)).run Tryd.prog w =
    .ok (.slice (some ⟨w.heap.size, 0, none⟩) n n) (w.alloc (.cells (tab (n * 2) (fun _ => .int .i64 0)).toArray 26)) := by
  obtain ⟨i0, hi, hz0, hz1, hz2⟩ := info_parts info_line
  rw [run_make (P := Tryd.prog) w 103 26 i0 _ Tryd.underlying103 hi hz0 .i64 .i64 n n (by omega) (Int.le_refl _) (by rw [hz2]; omega) (by omega), hz1]
  have e : madeCells (Value.agg #[.int .i64 0, .int .i64 0]).cells ((n : Int).toNat * 2) = (tab (n * 2) (fun _ => .int .i64 0)).toArray := by
    have h0 : (Value.agg #[.int .i64 0, .int .i64 0]).cells = #[.int .i64 0, .int .i64 0] := rfl
    rw [h0]
    apply Array.toList_inj.1
    unfold madeCells tab
    simp only [Array.toList_map, Array.toList_range, Int.toNat_natCast]
    apply List.map_congr_left
    intro k _
    have hk : k % 2 = 0 ∨ k % 2 = 1 := by omega
    rcases hk with h | h <;> simp [h]
  rw [e]
  simp
/-- All lines of a memory, in a row of the call's own. -/
def allV (wd : Nat → Int) (i k : Nat) : Value := .int .i64 (if k < 2 * i then wd k else 0)
structure Als (w wr : World) (n i g : Nat) (wd : Nat → Int) : Prop where
  row : wr.ownsRow w.heap.size 26 2 (.slice (some ⟨g, 0, none⟩) n n) n (tab (n * 2) (allV wd i))
  be : Below w.heap.size w wr
theorem Als.ext {w a b : World} {n i g : Nat} {wd : Nat → Int} (h : Als w a n i g wd) (hb : Below a.heap.size a b) : Als w b n i g wd :=
  ⟨row_keep h.row (fun k hk => hb.block k (lt_own h.row hk)), ext_trans h.be hb⟩
theorem als_zero (w wx : World) (n : Nat) (wd : Nat → Int) (hn : n ≤ 1000) (hb : Below w.heap.size w wx) : Als w (wx.alloc (.cells (tab (n * 2) (fun _ => .int .i64 0)).toArray 26)) n 0 wx.heap.size wd := by
  have hs := hb.size
  refine ⟨⟨by simp, .inr ⟨wx.heap.size, n, _, rfl, hs, alNew rfl, Nat.le_refl _, by unfold maxLen; omega, by simp, ?_⟩⟩, hb.alloc hs _⟩
  rw [show (tab (n * 2) (fun _ => Value.int .i64 0)).toArray.toList = tab (n * 2) (fun _ => Value.int .i64 0) from rfl, List.take_of_length_le (by simp)]
  exact tab_ext fun k _ => by simp [allV]
theorem als_next {w a : World} {n i g : Nat} {wd : Nat → Int} (h : Als w a n i g wd) : Als w ((a.setCell ⟨g, i * 2, none⟩ (.int .i64 (wd (2 * i)))).setCell ⟨g, i * 2 + 1, none⟩ (.int .i64 (wd (2 * i + 1)))) n (i + 1) g wd := by
  have hg : w.heap.size ≤ g := own_ge h.row rfl
  refine ⟨?_, (h.be.setCell (p := ⟨g, i * 2, none⟩) hg _).setCell (p := ⟨g, i * 2 + 1, none⟩) hg _⟩
  have h1 := own_set (own_set h.row (i * 2) (.int .i64 (wd (2 * i)))) (i * 2 + 1) (.int .i64 (wd (2 * i + 1)))
  rw [tab_set (g := fun k => .int .i64 (if k < 2 * i + 1 then wd k else 0)) (by show Value.int .i64 (if i * 2 < 2 * i + 1 then wd (i * 2) else 0) = _; rw [if_pos (by omega), Nat.mul_comm]) (fun k _ hk => by
    simp only [allV]
    by_cases h0 : k < 2 * i
    · rw [if_pos h0, if_pos (by omega)]
    · rw [if_neg h0, if_neg (by omega)]), tab_set (g := allV wd (i + 1)) (by simp only [allV]; rw [if_pos (by omega), show i * 2 + 1 = 2 * i + 1 by omega]) (fun k _ hk => by
    simp only [allV]
    by_cases h0 : k < 2 * i + 1
    · rw [if_pos h0, if_pos (by omega)]
    · rw [if_neg h0, if_neg (by omega)])] at h1
  exact h1
theorem Als.at {w a : World} {n g : Nat} {wd : Nat → Int} (h : Als w a n n g wd) (l : Nat) (hl : l < n) : a.cell? ⟨g, l * 2, none⟩ = some (.int .i64 (wd (2 * l))) ∧ a.cell? ⟨g, l * 2 + 1, none⟩ = some (.int .i64 (wd (2 * l + 1))) ∧ g < a.heap.size := by
  refine ⟨own_cell h.row ?_, own_cell h.row ?_, lt_own h.row rfl⟩
  · rw [tab_at _ (by omega)]
    simp only [allV]
    rw [if_pos (by omega), Nat.mul_comm]
  · rw [tab_at _ (by omega)]
    simp only [allV]
    rw [if_pos (by omega), Nat.mul_comm]

set_option maxHeartbeats 1600000 in
theorem blines_ok {w : World} {lo hi p : Nat} {m : Mm} (h : Bm w lo hi p m) (hL : Lims w) :
    Calls Tryd.prog 66 #[.pointer (some ⟨p, 0, none⟩)] w fun e w' => ∃ g, e = .returned (.slice (some ⟨g, 0, none⟩) m.n m.n) ∧ Als w w' m.n m.n g m.wd := by
  have HM := Lib.hid h
  have HL := Lib.hid hL
  obtain ⟨q, R, h⟩ := h
  have H := Lib.hid h
  obtain ⟨cp, k0, k1, k2, k3, k4, k5, k6, k7, hcp⟩ := h.tops
  obtain ⟨hp, hq⟩ := h.lt
  have HF := Lib.hid (fun w1 (hb : Below w.heap.size w w1) l hl => bfind_ok (h.ext hb) (Lims.ext hb hL) l hl)
  have hmk := mk_line m.n (by have := m.n_le; omega)
  have hln := lines_any m.c w hL
  rw [← Mm.n_of] at hln
  have HLN := Lib.hid hln
  have hn32 := m.n_le
  clear h hL hln
  go_enter Tryd.func66, Tryd.ntmps66
  go_wp2_with fail
  refine HLN.out.mono ?_
  rintro e w1 ⟨rfl, hb⟩
  have HA := Lib.hid (als_zero w w1 m.n m.wd (by omega) hb)
  clear hb k0 k1 k2 k3 k4 k5 k6 k7
  generalize hM : m.n = M at *
  have HM2 := Lib.hid hM
  clear hM
  go_wp2_with fail
  generalize w1.heap.size = g at *
  clear hmk
  have HNB := Lib.hid (Mm.nb_of H.out.ok)
  go_loopg [18] M (fun gk s18 wr => ∃ i : Nat, i + gk = M ∧ s18 = .int .i64 i ∧ Hid (Als w wr M i g m.wd))
  case atStart => exact ⟨0, by omega, rfl, HA⟩
  case round =>
    obtain ⟨i, hi, rfl, HA1⟩ := hrel
    by_cases hlt : i < M
    · have ek : decide ((i : Int) < (M : Int)) = true := by simp; omega
      have hlb : i % m.nb < m.nb := Nat.mod_lt _ HNB.out.1
      have HF1 := Lib.hid (HF.out _ HA1.out.be i hlt)
      go_wp2_with fail
      refine HF1.out.mono ?_
      rintro e w2 ⟨rfl, hb⟩
      have HA2 := Lib.hid (HA1.out.ext hb)
      obtain ⟨b, cap, hR, b2, b3, hjc, hf, y0, y1⟩ := (H.out.ext HA2.out.be).line i hlt
      obtain ⟨_, _, x2⟩ := (H.out.ext HA2.out.be).bank _ hlb
      rw [hR] at x2
      have hbl : b < w2.heap.size := by have := (H.out.ext HA2.out.be).sz; omega
      have hql := (H.out.ext HA2.out.be).lt.2
      have hgl := lt_own HA2.out.row rfl
      have hgf := own_free HA2.out.row
      obtain ⟨u, hu0⟩ : ∃ u, w2.cell? ⟨g, i * 2, none⟩ = some u := ⟨_, own_cell HA2.out.row (tab_at _ (by omega))⟩
      obtain ⟨u', hu1⟩ : ∃ u, w2.cell? ⟨g, i * 2 + 1, none⟩ = some u := ⟨_, own_cell HA2.out.row (tab_at _ (by omega))⟩
      have HN := Lib.hid (als_next HA2.out)
      clear hR hb b2 b3 hf HF1
      generalize cntB m.nb m.n (i % m.nb) = N at *
      generalize i % m.nb = ib at *
      generalize i / m.nb = jb at *
      go_wp2_with fail
      go_roundg (M - (i + 1))
      case measure => omega
      case rel => exact ⟨i + 1, by omega, by go_num, HN⟩
    · have ek : decide ((i : Int) < (M : Int)) = false := by simp; omega
      obtain rfl : i = M := by omega
      go_wp2_with fail
      go_ret
      exact ⟨g, by rw [HM2.out]; rfl, by rw [HM2.out]; exact HA1.out⟩

theorem eqLine2 (w : World) (a b c d : Int) : (Op.equalIn 10000 26 (.agg #[.int .i64 a, .int .i64 b]) (.agg #[.int .i64 c, .int .i64 d])).run Tryd.prog w = .ok (decide (a = c ∧ b = d)) w := by
  obtain ⟨i0, hi, hz0, hz1, hz2⟩ := info_parts (show (Tryd.prog.info? 3).map (fun i => (i.zero, i.size, i.bytes)) = some (some (.int .i64 0), 1, 8) by kernel_rfl)
  have hc : Tryd.prog.cellsOf 3 = 1 := by kernel_rfl
  rw [run_equalIn_array (P := Tryd.prog) w 9999 #[.int .i64 a, .int .i64 b] #[.int .i64 c, .int .i64 d] Tryd.underlying26 hi, hc]
  have hr : List.range 2 = [0, 1] := rfl
  rw [hr]
  simp only [Op.eqItems]
  go_simp
  by_cases h1 : a = c <;> by_cases h2 : b = d <;> simp [h1, h2]
theorem neqLine (w : World) (a b c d : Int) : (binOp .neq 26 (.agg #[.int .i64 a, .int .i64 b]) (.agg #[.int .i64 c, .int .i64 d])).run Tryd.prog w = .ok (.bool (!decide (a = c ∧ b = d))) w := by
  have h := fun w => eqLine2 w a b c d
  go_simp
theorem eqLineV (w : World) (a b c d : Int) : (binOp .eql 26 (.agg #[.int .i64 a, .int .i64 b]) (.agg #[.int .i64 c, .int .i64 d])).run Tryd.prog w = .ok (.bool (decide (a = c ∧ b = d))) w := by
  have h := fun w => eqLine2 w a b c d
  go_simp
/-- Are two rows of words alike, up to line k? -/
def alike (x y : Nat → Int) (k : Nat) : Bool := (List.range (2 * k)).all fun i => x i == y i
theorem alike_zero (x y : Nat → Int) : alike x y 0 = true := rfl
theorem alike_succ (x y : Nat → Int) (k : Nat) : alike x y (k + 1) = (alike x y k && (decide (x (2 * k) = y (2 * k) ∧ x (2 * k + 1) = y (2 * k + 1)))) := by
  unfold alike
  rw [show 2 * (k + 1) = 2 * k + 1 + 1 by omega, List.range_succ, List.range_succ]
  simp only [List.all_append, List.all_cons, List.all_nil, Bool.and_true, Bool.and_assoc]
  congr 1
  rw [Bool.eq_iff_iff]
  simp
theorem alike_no {x y : Nat → Int} {k n : Nat} (h : k < n) (hne : ¬ (x (2 * k) = y (2 * k) ∧ x (2 * k + 1) = y (2 * k + 1))) : alike x y n = false := by
  unfold alike
  rw [List.all_eq_false]
  by_cases h0 : x (2 * k) = y (2 * k)
  · exact ⟨2 * k + 1, List.mem_range.2 (by omega), by simpa using fun e => hne ⟨h0, e⟩⟩
  · exact ⟨2 * k, List.mem_range.2 (by omega), by simpa using h0⟩
theorem alike_iff {x y : Nat → Int} {n : Nat} : alike x y n = true ↔ ∀ k, k < 2 * n → x k = y k := by
  unfold alike
  rw [List.all_eq_true]
  exact ⟨fun h k hk => by simpa using h k (List.mem_range.2 hk), fun h k hk => by simpa using h k (List.mem_range.1 hk)⟩

set_option maxHeartbeats 1600000 in
theorem bsame_ok {w : World} {lo hi p lo' hi' p' : Nat} {m o : Mm} (h : Bm w lo hi p m) (ho : Bm w lo' hi' p' o) (hn : o.n = m.n) (hL : Lims w) :
    Calls Tryd.prog 19 #[.pointer (some ⟨p, 0, none⟩), .pointer (some ⟨p', 0, none⟩)] w fun e w' => e = .returned (.bool (alike m.wd o.wd m.n)) ∧ Below w.heap.size w w' := by
  have H1 := Lib.hid (blines_ok h hL)
  have H2 := Lib.hid (fun w1 (hb : Below w.heap.size w w1) => blines_ok (ho.ext hb) (hL.ext hb))
  rw [hn] at H2
  have hn32 := m.n_le
  clear h ho hn hL
  generalize m.n = M at *
  generalize m.wd = x at *
  generalize o.wd = y at *
  go_enter Tryd.func19, Tryd.ntmps19
  go_wp2_with fail
  refine H1.out.mono ?_
  rintro e w1 ⟨g, rfl, hA⟩
  have HA := Lib.hid hA
  clear hA
  go_wp2_with fail
  refine (H2.out _ HA.out.be).mono ?_
  rintro e w2 ⟨g', rfl, hB⟩
  have HB := Lib.hid hB
  have HA2 := Lib.hid (HA.out.ext HB.out.be)
  have HAB := Lib.hid HA2.out.be
  clear hB H1 H2
  go_wp2_with fail
  go_loopg [32] M (fun gk s32 wr => ∃ i : Nat, i + gk = M ∧ s32 = .int .i64 i ∧ Hid (alike x y i = true) ∧ Hid (Below w2.heap.size w2 wr))
  case atStart => exact ⟨0, by omega, rfl, Lib.hid (alike_zero _ _), Lib.hid (Below.refl _ _)⟩
  case round =>
    obtain ⟨i, hi, rfl, HE, HR⟩ := hrel
    by_cases hlt : i < M
    · have ek : decide ((i : Int) < (M : Int)) = true := by simp; omega
      obtain ⟨y0, y1, yl⟩ := (HB.out.ext HR.out).at i hlt
      obtain ⟨x0, x1, xl⟩ := (HA2.out.ext HR.out).at i hlt
      by_cases hq : x (2 * i) = y (2 * i) ∧ x (2 * i + 1) = y (2 * i + 1)
      · have HQ := Lib.hid (show alike x y (i + 1) = true by rw [alike_succ, HE.out]; simpa using hq)
        have hd : ∀ wx, (binOp .neq 26 (.agg #[.int .i64 (x (2 * i)), .int .i64 (x (2 * i + 1))]) (.agg #[.int .i64 (y (2 * i)), .int .i64 (y (2 * i + 1))])).run Tryd.prog wx = .ok (.bool false) wx := fun wx => by rw [neqLine]; simpa using hq
        clear hq
        go_wp2_with fail
        refine region_past (by kernel_rfl) (by kernel_rfl) ?_; (repeat (go_big_quiet_step (fail))); refine wpQuiet_nil ?_; rintro _ ⟨pw, rfl⟩
        go_wp2_with fail
        go_roundg (M - (i + 1))
        case measure => omega
        case rel => exact ⟨i + 1, by omega, by go_num, HQ, Lib.hid (ext_past pw (ext_trans HR.out (ext_alloc _ (Below.refl _ _))))⟩
      · have HQ := Lib.hid (alike_no hlt hq)
        have hd : ∀ wx, (binOp .neq 26 (.agg #[.int .i64 (x (2 * i)), .int .i64 (x (2 * i + 1))]) (.agg #[.int .i64 (y (2 * i)), .int .i64 (y (2 * i + 1))])).run Tryd.prog wx = .ok (.bool true) wx := fun wx => by rw [neqLine]; simp only [hq, decide_false, Bool.not_false]
        clear hq
        go_wp2_with fail
        refine region_past (by kernel_rfl) (by kernel_rfl) ?_; (repeat (go_big_quiet_step (fail))); refine wpQuiet_nil ?_; rintro _ ⟨pw, rfl⟩
        go_wp2_with fail
        go_ret
        exact ⟨by rw [HQ.out]; rfl, ext_past pw (ext_trans (ext_trans HAB.out HR.out) (ext_alloc _ (Below.refl _ _)))⟩
    · have ek : decide ((i : Int) < (M : Int)) = false := by simp; omega
      obtain rfl : i = M := by omega
      go_wp2_with fail
      go_ret
      exact ⟨by rw [HE.out]; rfl, ext_trans HAB.out HR.out⟩

end Go.Proofs.YtkfnjpmigifomaaDoor
