/- What this text holds: a new memory. Condition: the table of limits holds what its initialiser lays. -/
import Derived.Test.YtkfnjpmigifomaaDoorBankB
namespace Go.Proofs.YtkfnjpmigifomaaDoor
open Go.RowKit

theorem cfg_at {W : World} {B : Nat} {c : Cfg} {t : TypeId} {fr : Nat × Nat} (h : W.heap[B]? = some (.cells #[.int .i64 c.co, .int .i64 c.gr, .int .i64 c.se, .int .i64 c.wa, .int .i64 c.de, .int .i64 c.en, .int .i64 c.ba] t fr)) :
    W.cell? ⟨B, 0, none⟩ = some (.int .i64 c.co) ∧ W.cell? ⟨B, 1, none⟩ = some (.int .i64 c.gr) ∧ W.cell? ⟨B, 2, none⟩ = some (.int .i64 c.se) ∧ W.cell? ⟨B, 3, none⟩ = some (.int .i64 c.wa) ∧
    W.cell? ⟨B, 4, none⟩ = some (.int .i64 c.de) ∧ W.cell? ⟨B, 5, none⟩ = some (.int .i64 c.en) ∧ W.cell? ⟨B, 6, none⟩ = some (.int .i64 c.ba) := by
  simp [World.cell?, h]
theorem info_bank : (Tryd.prog.info? 105).map (fun i => (i.zero, i.size, i.bytes)) = some (some (.agg #[.int .i64 0, .int .i64 0, .slice none 0 0]), 3, 40) := by kernel_rfl
/-- A memory in which all words are 0. -/
def Mm.zero (c : Cfg) : Mm := ⟨c, fun _ => 0, fun _ => 0, fun _ => 0⟩
theorem mk_bank (c : Cfg) (h1 : 1 ≤ c.ba) (h4 : c.ba ≤ 4) (w : World) : (Instr.makeSlice 97 (.int .i64 c.ba) (.int .i64 c.ba)).run Tryd.prog w =
    .ok (.slice (some ⟨w.heap.size, 0, none⟩) (Mm.zero c).nb (Mm.zero c).nb) (w.alloc (.cells (tab ((Mm.zero c).nb * 3) (bankV (Mm.zero c) fun _ => .slice none 0 0)).toArray 105)) := by
  obtain ⟨i0, hi, hz0, hz1, hz2⟩ := info_parts info_bank
  rw [run_make (P := Tryd.prog) w 97 105 i0 _ Tryd.underlying97 hi hz0 .i64 .i64 c.ba c.ba (by omega) (Int.le_refl _) (by rw [hz2]; omega) (by omega), hz1]
  have e : madeCells (Value.agg #[.int .i64 0, .int .i64 0, .slice none 0 0]).cells (c.ba.toNat * 3) = (tab ((Mm.zero c).nb * 3) (bankV (Mm.zero c) fun _ => .slice none 0 0)).toArray := by
    have h0 : (Value.agg #[.int .i64 0, .int .i64 0, .slice none 0 0]).cells = #[.int .i64 0, .int .i64 0, .slice none 0 0] := rfl
    rw [h0]
    apply Array.toList_inj.1
    unfold madeCells tab Mm.zero Mm.nb
    simp only [Array.toList_map, Array.toList_range]
    apply List.map_congr_left
    intro k _
    have hk : k % 3 = 0 ∨ k % 3 = 1 ∨ k % 3 = 2 := by omega
    rcases hk with h | h | h <;> simp [bankV, h]
  rw [e]
  rfl
theorem bnew_no (c : Cfg) (w : World) (hL : Lims w) (hc : ¬ c.ok) : Calls Tryd.prog 12 #[.agg #[.int .i64 c.co, .int .i64 c.gr, .int .i64 c.se, .int .i64 c.wa, .int .i64 c.de, .int .i64 c.en, .int .i64 c.ba]] w fun e w' => e = .returned (.tuple #[.pointer none, .int .i64 10]) ∧ Below w.heap.size w w' := by
  have h0 := hL.lt
  have hch := chk_no hc
  have HL := Lib.hid hL
  clear hc hL
  go_enter Tryd.func12, Tryd.ntmps12
  go_wp2_with fail
  refine (check_any c _ (HL.out.ext (ext_alloc _ (Below.refl _ _)))).mono ?_
  rintro e w1 ⟨rfl, hb⟩
  go_wp2_with fail
  go_ret2
  exact ⟨rfl, ext_trans (ext_alloc _ (Below.refl _ _)) hb⟩

/-- A memory that is being made: its first k lines. -/
structure Nw (w wr : World) (k p q : Nat) (R : Nat → Value) (c : Cfg) : Prop where
  bk : Bk wr (w.heap.size + 1) wr.heap.size k p q R (Mm.zero c)
  box : ∃ fr, wr.heap[w.heap.size]? = some (.cells #[.int .i64 c.co, .int .i64 c.gr, .int .i64 c.se, .int .i64 c.wa, .int .i64 c.de, .int .i64 c.en, .int .i64 c.ba] 23 fr)
  be : Below w.heap.size w wr
theorem Bk.grow {w w' : World} {lo hi hi' n p q : Nat} {R : Nat → Value} {m : Mm} (h : Bk w lo hi n p q R m) (hb : Below w.heap.size w w') (h1 : hi ≤ hi') (h2 : hi' ≤ w'.heap.size) : Bk w' lo hi' n p q R m := by
  have k := h.ext hb
  obtain ⟨d1, d2, d3, d4, d5⟩ := k.bd
  exact ⟨k.ok, k.top, k.ln, fun i hi2 b hbb => ⟨Nat.lt_of_lt_of_le (k.up i hi2 b hbb).1 h1, (k.up i hi2 b hbb).2⟩, ⟨d1, by omega, d3, by omega, d5⟩, h2, k.gl⟩
theorem Nw.ext {w a b : World} {k p q : Nat} {R : Nat → Value} {c : Cfg} (h : Nw w a k p q R c) (hb : Below a.heap.size a b) : Nw w b k p q R c := by
  obtain ⟨fr, hx⟩ := h.box
  exact ⟨h.bk.grow hb hb.size (Nat.le_refl _), ⟨fr, (hb.block _ (lt_of hx)).trans hx⟩, ext_trans h.be hb⟩
theorem nw_zero (c : Cfg) (w w1 : World) (hc : c.ok) (hb : Below w.heap.size w w1) (hx : w1.heap[w.heap.size]? = some (.cells #[.int .i64 c.co, .int .i64 c.gr, .int .i64 c.se, .int .i64 c.wa, .int .i64 c.de, .int .i64 c.en, .int .i64 c.ba] 23 (0, 0))) (hL : Lims w) :
    Nw w ((w1.alloc (.cells (tab ((Mm.zero c).nb * 3) (bankV (Mm.zero c) fun _ => .slice none 0 0)).toArray 105)).alloc (.cells #[.int .i64 c.co, .int .i64 c.gr, .int .i64 c.se, .int .i64 c.wa, .int .i64 c.de, .int .i64 c.en, .int .i64 c.ba, .slice (some ⟨w1.heap.size, 0, none⟩) (Mm.zero c).nb (Mm.zero c).nb] 99)) 0 (w1.heap.size + 1) w1.heap.size (fun _ => .slice none 0 0) c := by
  have hl := lt_of hx
  have hsz := hb.size
  obtain ⟨n1, n4, _⟩ := Mm.nb_of (m := Mm.zero c) hc
  refine ⟨⟨hc, ⟨(Mm.zero c).nb, alNew (by simp), by simp, .inr ⟨w1.heap.size, (Mm.zero c).nb, _, rfl, by omega, alOld (alNew rfl), Nat.le_refl _, by unfold maxLen; omega, by simp, List.take_of_length_le (by simp)⟩⟩, fun i hi => ?_, fun i hi b hbb => (by cases hbb), ⟨by omega, by simp, by omega, by simp; omega, by omega⟩, Nat.le_refl _, by have := hL.lt; omega⟩, ⟨_, alOld (alOld hx)⟩, ?_⟩
  · rw [cnt_zero n1]
    exact World.ownsRow_nil _ _ _ _
  · exact (hb.alloc hsz _).alloc (by simp; omega) _
theorem info_line : (Tryd.prog.info? 26).map (fun i => (i.zero, i.size, i.bytes)) = some (some (.agg #[.int .i64 0, .int .i64 0]), 2, 16) := by kernel_rfl
theorem lt_own {w : World} {base e size n b : Nat} {v : Value} {xs : List Value} (h : w.ownsRow base e size v n xs) (hb : v.ownBlock = some b) : b < w.heap.size := by
  rcases h.2 with ⟨rfl, _⟩ | ⟨g, cap, cur, rfl, _, hg, _⟩
  · cases hb
  · obtain rfl := Option.some.inj hb; exact lt_of hg
theorem two_at {W : World} {b : Nat} {x y : Value} {t : TypeId} {fr : Nat × Nat} (h : W.heap[b]? = some (.cells #[x, y] t fr)) : ∀ ad, some (⟨b, 0, none⟩ : Addr) = some ad → ∀ j u, [x, y][j]? = some u → W.cell? (ad.add j) = some u := by
  intro ad he j u hu
  obtain rfl := Option.some.inj he
  rw [Addr.add_lit, Nat.zero_add]
  simp only [World.cell?, h]
  simpa using hu
theorem lineV_zero (nb i k : Nat) : lineV (fun _ => 0) nb i k = .int .i64 0 := rfl
/-- One line more. -/
theorem nw_next {w w2 w3 : World} {k p q i : Nat} {R : Nat → Value} {c : Cfg} (h : Nw w w2 k p q R c) (hi : i = k % (Mm.zero c).nb) {v' : Value}
    (ho : w3.ownsRow (w.heap.size + 1) 26 2 v' (cntB (Mm.zero c).nb k i + 1) (tab (cntB (Mm.zero c).nb k i * 2) (lineV (Mm.zero c).wd (Mm.zero c).nb i) ++ [.int .i64 0, .int .i64 0]))
    (hg : w2.grownBy w3 (R i).ownBlock) (hf : ∀ g, v'.ownBlock = some g → (R i).ownBlock = some g ∨ w2.heap.size ≤ g) :
    Nw w (w3.setCell ⟨q, i * 3 + 2, none⟩ v') (k + 1) p q (updN R i v') c := by
  obtain ⟨n1, n4, _⟩ := Mm.nb_of h.bk.ok
  have hiN : i < (Mm.zero c).nb := by rw [hi]; exact Nat.mod_lt _ n1
  obtain ⟨hp, hq⟩ := h.bk.lt
  obtain ⟨d1, d2, d3, d4, d5⟩ := h.bk.bd
  have hsz := hg.size
  obtain ⟨c1, c2⟩ := cnt_succ (nb := (Mm.zero c).nb) (n := k) n1 n4
  rw [← hi] at c1 c2
  have own : ∀ g, (R i).ownBlock = some g → g ≠ p ∧ g ≠ q ∧ w.heap.size + 1 ≤ g ∧ g < w2.heap.size := fun g hgg =>
    ⟨(h.bk.up i hiN g hgg).2.1, (h.bk.up i hiN g hgg).2.2.1, own_ge (h.bk.ln i hiN) hgg, (h.bk.up i hiN g hgg).1⟩
  have keep : ∀ g, g < w2.heap.size → (R i).ownBlock ≠ some g → g ≠ q → (w3.setCell ⟨q, i * 3 + 2, none⟩ v').heap[g]? = w2.heap[g]? := fun g h1 h2 h3 =>
    (Below.heap_setCell _ _ _ _ h3).trans (hg.block g h1 (fun e => h2 e.symm))
  have new : ∀ g, v'.ownBlock = some g → g ≠ p ∧ g ≠ q := fun g hgg => by
    rcases hf g hgg with h1 | h1
    · exact ⟨(own g h1).1, (own g h1).2.1⟩
    · exact ⟨by omega, by omega⟩
  have hlv : ∀ g, v'.ownBlock = some g → g < w3.heap.size := fun g hgg => by
    rcases ho.2 with ⟨h0, _⟩ | ⟨b, _, _, h1, _, h3, _⟩
    · rw [h0] at hgg; cases hgg
    · rw [h1] at hgg
      obtain rfl := Option.some.inj hgg
      exact lt_of h3
  obtain ⟨fr, hbx⟩ := h.box
  refine ⟨⟨h.bk.ok, ?_, fun j hj => ?_, fun j hj g hgg => ?_, ⟨d1, by simp; omega, d3, by simp; omega, d5⟩, Nat.le_refl _, h.bk.gl⟩, ⟨fr, ?_⟩, ?_⟩
  · obtain ⟨cp, t1, t2⟩ := h.bk.top
    refine ⟨cp, (keep p hp (fun e => (own p e).1 rfl) d5).trans t1, ?_⟩
    have t3 : w3.ownsRow (w.heap.size + 1) 105 3 (.slice (some ⟨q, 0, none⟩) (Mm.zero c).nb cp) (Mm.zero c).nb (tab ((Mm.zero c).nb * 3) (bankV (Mm.zero c) R)) :=
      row_keep t2 fun g hgg => by
        obtain rfl := Option.some.inj hgg
        exact hg.block _ hq (fun e => (own _ e.symm).2.1 rfl)
    have e2 : (i * 3 + 2) / 3 = i := by omega
    have := own_set t3 (i * 3 + 2) v'
    rw [tab_set (g := bankV (Mm.zero c) (updN R i v')) (by simp [bankV, e2]) fun x _ hne => ?_] at this
    · exact this
    simp only [bankV]
    by_cases h0 : x % 3 = 0
    · rw [if_pos h0, if_pos h0]
    · rw [if_neg h0, if_neg h0]
      by_cases h1 : x % 3 = 1
      · rw [if_pos h1, if_pos h1]
      · rw [if_neg h1, if_neg h1, updN_ne _ _ (by omega)]
  · by_cases hji : j = i
    · subst hji
      rw [updN_same, c1]
      have e : tab (cntB (Mm.zero c).nb k j * 2) (lineV (Mm.zero c).wd (Mm.zero c).nb j) ++ [.int .i64 0, .int .i64 0] = tab ((cntB (Mm.zero c).nb k j + 1) * 2) (lineV (Mm.zero c).wd (Mm.zero c).nb j) := by
        rw [Nat.add_mul, Nat.one_mul, tab_two]
        rfl
      rw [e] at ho
      exact row_keep ho fun g hgg => Below.heap_setCell _ _ _ _ (new g hgg).2
    · rw [updN_ne _ _ hji, cnt_other n1 n4 hj (by rw [← hi]; exact hji)]
      exact row_keep (h.bk.ln j hj) fun g hgg => keep g (h.bk.up j hj g hgg).1 (fun e => (h.bk.up i hiN g e).2.2.2 j hj hji hgg) (h.bk.up j hj g hgg).2.2.1
  · by_cases hji : j = i
    · subst hji
      rw [updN_same] at hgg
      refine ⟨by simpa using hlv g hgg, (new g hgg).1, (new g hgg).2, fun x hx hxj => ?_⟩
      rw [updN_ne _ _ hxj]
      rcases hf g hgg with h1 | h1
      · exact (h.bk.up j hj g h1).2.2.2 x hx hxj
      · intro e
        have := (h.bk.up x hx g e).1
        omega
    · rw [updN_ne _ _ hji] at hgg
      obtain ⟨u1, u2, u3, u4⟩ := h.bk.up j hj g hgg
      refine ⟨by simp; omega, u2, u3, fun x hx hxj => ?_⟩
      by_cases hxi : x = i
      · subst hxi
        rw [updN_same]
        intro e
        rcases hf g e with h1 | h1
        · exact (h.bk.up x hx g h1).2.2.2 j hj hji hgg
        · omega
      · rw [updN_ne _ _ hxi]
        exact u4 x hx hxj
  · have hbl := lt_of hbx
    exact (keep _ hbl (fun e => by have := (own _ e).2.2.1; omega) (by omega)).trans hbx
  · have hb := h.be
    refine ⟨hg.os.trans hb.os, hg.tape.trans hb.tape, hg.output.trans hb.output, by simp; have := hb.size; omega, fun x hx => ?_⟩
    have := hb.size
    exact (keep x (by omega) (fun e => by have := (own _ e).2.2.1; omega) (by omega)).trans (hb.block x hx)
set_option maxHeartbeats 1600000 in
theorem bnew_ok (c : Cfg) (w : World) (hL : Lims w) (hc : c.ok) : Calls Tryd.prog 12 #[.agg #[.int .i64 c.co, .int .i64 c.gr, .int .i64 c.se, .int .i64 c.wa, .int .i64 c.de, .int .i64 c.en, .int .i64 c.ba]] w fun e w' => ∃ p, e = .returned (.tuple #[.pointer (some ⟨p, 0, none⟩), .int .i64 0]) ∧ Bm w' (w.heap.size + 1) w'.heap.size p (Mm.zero c) ∧ Below w.heap.size w w' := by
  have h0 := hL.lt
  have hch := chk_ok hc
  obtain ⟨i0, hi0, hz0, hz1, hz2⟩ := info_parts info_line
  have HL := Lib.hid hL
  have HC := Lib.hid hc
  obtain ⟨_, _, _, _, _, _, b1, b4⟩ := hc
  clear hL
  go_enter Tryd.func12, Tryd.ntmps12
  go_wp2_with fail
  refine (check_any c _ (HL.out.ext (ext_alloc _ (Below.refl _ _)))).mono ?_
  rintro e w1 ⟨rfl, hb⟩
  have hc0 := (hb.block w.heap.size (by simp)).trans (alNew rfl)
  have HB1 := Lib.hid (ext_trans (ext_alloc _ (Below.refl _ _)) hb)
  have HC0 := Lib.hid hc0
  obtain ⟨k0, k1, k2, k3, k4, k5, k6⟩ := cfg_at hc0
  have hl1 := lt_of hc0
  clear hb hc0
  have hmk := mk_bank c b1 b4
  have hnb : Hid ((Mm.zero c).nb = c.ba.toNat) := Lib.hid rfl
  have HNW := Lib.hid ((nw_zero c w w1 HC.out HB1.out HC0.out HL.out).ext (ext_drew (Below.refl _ _)))
  have HN := Lib.hid (Mm.nb_of (m := Mm.zero c) HC.out)
  generalize hnn : (Mm.zero c).nb = N at *
  generalize (tab (N * 3) (bankV (Mm.zero c) fun _ => Value.slice none 0 0)).toArray = cs at *
  go_wp2_with fail
  go_region
  generalize hW2 : World.drew _ = W2 at HNW
  clear hW2
  obtain ⟨fr, hbx⟩ := HNW.out.box
  obtain ⟨k0, k1, k2, k3, k4, k5, k6⟩ := cfg_at hbx
  have hl2 := lt_of hbx
  clear hbx
  go_wp2_with fail
  refine (lines_any c _ (HL.out.ext HNW.out.be)).mono ?_
  rintro e w3 ⟨rfl, hb⟩
  have HNW := Lib.hid (HNW.out.ext hb)
  have hln := Mm.n_of (Mm.zero c)
  have hn32 := Mm.n_le (Mm.zero c)
  rw [show (Mm.zero c).c = c from rfl] at hln
  generalize hM : (Mm.zero c).n = M at *
  have HM := Lib.hid hM
  clear hM
  rw [← hln]
  have HLN := Lib.hid hln
  generalize w1.heap.size + 1 = p at *
  generalize w1.heap.size = q at *
  clear hb k0 k1 k2 k3 k4 k5 k6 hl1 hl2 hmk hln
  go_wp2_with fail
  go_loopg [21] M (fun g s21 wr => ∃ (k : Nat) (R : Nat → Value), s21 = .int .i64 k ∧ k + g = M ∧ Hid (Nw w wr k p q R c))
  case atStart => exact ⟨0, _, rfl, by omega, HNW⟩
  case round =>
    obtain ⟨k, R, rfl, hk, HR⟩ := hrel
    by_cases hlt : k < M
    · have ek : decide ((k : Int) < (M : Int)) = true := by simp; omega
      have em : (k : Int) % c.ba = ((k % N : Nat) : Int) := by have : (N : Int) = c.ba := HN.out.2.2; rw [← this]; omega
      have hiN : k % N < N := Nat.mod_lt _ HN.out.1
      obtain ⟨i, hi⟩ : ∃ i, i = k % N := ⟨_, rfl⟩
      have HI := Lib.hid hi
      rw [← hi] at em hiN
      obtain ⟨cp, _, _, _, _, _, _, _, k7, hcp⟩ := HR.out.bk.tops
      rw [hnn] at k7
      obtain ⟨fr, hbx⟩ := HR.out.box
      obtain ⟨_, _, _, _, _, _, k6⟩ := cfg_at hbx
      have hl2 := lt_of hbx
      obtain ⟨hp, hq⟩ := HR.out.bk.lt
      have hba0 : (c.ba == 0) = false := by rw [beq_eq_false_iff_ne]; omega
      have hk32 : (k : Int) ≤ 32 := by omega
      clear hbx hi
      go_wp2_with fail
      refine region_past (by kernel_rfl) (by kernel_rfl) ?_; (repeat (go_big_quiet_step (fail))); refine wpQuiet_nil ?_; rintro _ ⟨px, rfl⟩
      have HR1 := Lib.hid (HR.out.ext px.below)
      have hx2 := (HR1.out.bk.bank i (by rw [hnn]; exact hiN)).2.2
      have hfr := HR1.out.bk.free
      obtain ⟨hp, hq⟩ := HR1.out.bk.lt
      have hl3 : w.heap.size < px.val.heap.size := Nat.lt_of_lt_of_le hl2 px.below.size
      clear k6 k7 em hl2
      have hrow := HR1.out.bk.ln i (by rw [hnn]; exact hiN)
      obtain ⟨A, cc, hRi, hA⟩ := row_form hrow
      have hrow2 : px.val.ownsRow (w.heap.size + 1) 26 2 (.slice A (cntB N k i) cc) (cntB N k i) (tab (cntB N k i * 2) (lineV (Mm.zero c).wd N i)) := by have := hrow; rw [hRi, hnn] at this; exact this
      have hcl : cntB N k i ≤ 32 := by have := cnt_le (nb := N) (n := k) (i := i) HN.out.1; omega
      rw [hRi, hnn] at hx2
      have HRI := Lib.hid hRi
      have HROW := Lib.hid hrow2
      have hobq : (Value.slice A (cntB N k i) cc).ownBlock ≠ some q := fun e => by
        have := (HR1.out.bk.up i (by rw [hnn]; exact hiN) q (by rw [hRi, hnn]; exact e)).2.2.1
        exact this rfl
      clear hrow hrow2 hRi
      go_wp2_with (at_builtin; refine wpList_append_full _ rfl _ _ 103 rfl (w.heap.size + 1) 26 i0 (.agg #[.int .i64 0, .int .i64 0]) 2 16 Tryd.underlying103 hi0 hz0 hz1 hz2 rfl (by decide) (.slice A (cntB N k i) cc) (cntB N k i) (tab (cntB N k i * 2) (lineV (Mm.zero c).wd N i)) rfl (row_keep HROW.out (fun g hg => Below.heap_alloc _ _ _ (lt_own HROW.out hg))) (some ⟨px.val.heap.size, 0, none⟩) 1 1 [.int .i64 0, .int .i64 0] rfl (fun e => by cases e) rfl (two_at (alNew rfl)) (by simp [Value.oneCell']) ?c3 ?c4 ?c5 ?_)
      case c3 => unfold maxLen; omega
      case c4 => omega
      case c5 => have := HR1.out.be.size; have := hl3; simp; omega
      intro A3 c3 w3 h3 ho3 hg3 hf3
      have hq3 : w3.heap[q]? = px.val.heap[q]? := (hg3.block q (by simp; omega) (fun e => hobq e.symm)).trans (Below.heap_alloc _ _ _ hq)
      have hx3 : w3.cell? ⟨q, i * 3 + 2, none⟩ = some (.slice A (cntB N k i) cc) := by rw [← hx2]; unfold World.cell?; rw [hq3]
      have hf3q : w3.frozen? ⟨q, i * 3 + 2, none⟩ = false := by rw [← hfr (i * 3 + 2)]; unfold World.frozen?; rw [hq3]
      have hl3q : q < w3.heap.size := by have := hg3.size; simp at this; omega
      have HNX := Lib.hid (nw_next (k := k) (i := i) (w3 := w3) (R := R) (v' := .slice A3 (cntB N k i + 1) c3) (HR1.out.ext (ext_alloc (.cells #[.int .i64 0, .int .i64 0] 26) (Below.refl _ _))) (by rw [hnn]; exact HI.out) (by rw [hnn]; exact ho3) (by rw [HRI.out, hnn]; exact hg3) (by rw [HRI.out, hnn]; exact fun g hg => (hf3 g hg).imp id fun h => by simpa using h))
      clear h3 ho3 hg3 hf3 hq3 hx2 hobq
      generalize cntB N k i = cn at *
      go_wp2_with fail
      go_roundg (M - (k + 1))
      case measure => omega
      case rel => exact ⟨k + 1, _, by go_num, by omega, HNX⟩
    · have ek : decide ((k : Int) < (M : Int)) = false := by simp; omega
      obtain rfl : k = M := by omega
      have H := Lib.hid HR.out
      go_wp2_with fail
      go_ret2
      refine ⟨p, rfl, ⟨q, R, ?_⟩, H.out.be⟩
      rw [HM.out]
      exact H.out.bk

end Go.Proofs.YtkfnjpmigifomaaDoor
