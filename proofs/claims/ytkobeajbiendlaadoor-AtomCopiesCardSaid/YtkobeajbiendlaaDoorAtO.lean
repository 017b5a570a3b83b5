/- What this text holds: a machine's Copy. No condition. What this text holds: a machine's Copy, walked. No condition. What this text holds: when there is a new machine, and what it is; what its making leaves. No condition. What this text holds: a machine's New, walked. Conditions: the tables of limits and of ops hold what their initialisers lay. What this text holds: a machine's New where its numbers fit one another, walked. Conditions: the tables of limits and of ops hold what their initialisers lay. -/
import Derived.Test.YtkobeajbiendlaaDoorAto
import Derived.Test.YtkobeajbiendlaaDoorBnk
import Derived.Deep.RegionHeld3
import Derived.Deep.CutRange
namespace Go.Proofs.YtkobeajbiendlaaDoor
open Go.RowKit

theorem info_int11 : (Tryd.prog.info? 3).map (fun i => (i.zero, i.size, i.bytes)) = some (some (.int .i64 0), 1, 8) := by kernel_rfl
theorem info_seat : (Tryd.prog.info? 118).map (fun i => (i.zero, i.size, i.bytes)) = some (some (.agg #[.int .i64 0, .int .i64 0, .int .i64 0, .int .i64 0, .int .i64 0, .int .i64 0, .bool false, .slice none 0 0]), 8, 80) := by kernel_rfl
set_option maxRecDepth 100000 in
set_option maxHeartbeats 1000000 in
theorem clone_seat {base q n c : Nat} {xs : List Value} (w : World) (h : w.ownsRow base 118 8 (.slice (some ⟨q, 0, none⟩) n c) n xs) (h1 : ∀ u ∈ xs, u.oneCell' = true) (hn : n ≤ 1000) :
    Calls Tryd.prog 64 #[.slice (some ⟨q, 0, none⟩) n c] w fun e w' => ∃ v, e = .returned v ∧ w'.ownsRow w.heap.size 118 8 v n xs ∧ Below w.heap.size w w' := by
  obtain ⟨i0, hi, hz0, hz1, hz2⟩ := info_parts info_seat
  have H := Lib.hid h
  have H1 := Lib.hid h1
  have hlen := h.1
  clear h h1
  have hnil := fun wx => Lib.run_eql_slice_nil (P := Tryd.prog) wx 113 118 (some ⟨q, 0, none⟩) n c 0 0 Tryd.underlying113
  go_enter Tryd.func64, Tryd.ntmps64
  go_wp2_with (at_builtin; refine wpList_append_own _ rfl _ _ 113 rfl w.heap.size 118 i0 (.agg #[.int .i64 0, .int .i64 0, .int .i64 0, .int .i64 0, .int .i64 0, .int .i64 0, .bool false, .slice none 0 0]) 8 80 Tryd.underlying113 hi hz0 hz1 hz2 rfl (by decide) _ _ _ rfl (World.ownsRow_made w #[] 0 (Nat.le_refl _) (Nat.zero_le _) rfl) ⟨q, 0, none⟩ n c xs rfl hlen ?c1 ?c2 ?c3 ?c4 ?c5 ?_)
  case c1 => exact own_full (row_keep H.out (fun g hg => Below.heap_alloc _ _ _ (lt_own H.out hg)))
  case c2 => exact H1.out
  case c3 => unfold maxLen; omega
  case c4 => omega
  case c5 => simp
  intro v' w1 hown hgrow _
  have HO : Hid (w1.ownsRow w.heap.size 118 8 v' n xs) := Lib.hid (by simpa using hown)
  have HB : Hid (Below w.heap.size w w1) := Lib.hid (((Below.refl w.heap.size w).alloc (Nat.le_refl _) (.cells #[] 118)).grown hgrow (by simp) (fun k hk => by simp [Value.ownBlock] at hk; omega))
  clear hown hgrow hnil
  go_wp2_with fail
  go_ret
  exact ⟨_, rfl, HO.out, HB.out⟩
theorem SlI.full {w : World} {A : Option Addr} {xs : List Int} (h : SlI w A xs) : ∀ ad, A = some ad → ∀ j u, (xs.map (Value.int .i64))[j]? = some u → w.cell? (ad.add j) = some u := by
  intro ad hA j u hu
  have hj : j < xs.length := by simpa using (List.getElem?_eq_some_iff.1 hu).1
  obtain ⟨b, off, hA', hb, hc⟩ := h (by omega)
  rw [hA] at hA'
  obtain rfl := Option.some.inj hA'
  rw [Addr.add_lit]
  have := hc j hj
  rw [this]
  simp [hj] at hu ⊢
  exact hu
set_option maxRecDepth 100000 in
set_option maxHeartbeats 1000000 in
theorem clone_int (A : Option Addr) (xs : List Int) (c : Nat) (w : World) (h : SlI w A xs) (h0 : 0 < xs.length) (hn : xs.length ≤ 1000) :
    Calls Tryd.prog 65 #[.slice A xs.length c] w fun e w' => ∃ v, e = .returned v ∧ w'.ownsRow w.heap.size 3 1 v xs.length (xs.map (Value.int .i64)) ∧ Below w.heap.size w w' := by
  obtain ⟨i0, hi, hz0, hz1, hz2⟩ := info_parts info_int11
  have H := Lib.hid h
  obtain ⟨b, off, rfl, _, _⟩ := h h0
  have HN := Lib.hid (And.intro h0 hn)
  clear h h0 hn
  have hnil := fun wx => Lib.run_eql_slice_nil (P := Tryd.prog) wx 67 3 (some ⟨b, off, none⟩) xs.length c 0 0 Tryd.underlying67
  go_enter Tryd.func65, Tryd.ntmps65
  go_wp2_with (at_builtin; refine wpList_append_own _ rfl _ _ 67 rfl w.heap.size 3 i0 (.int .i64 0) 1 8 Tryd.underlying67 hi hz0 hz1 hz2 rfl (by decide) _ _ _ rfl (World.ownsRow_made w #[] 0 (Nat.le_refl _) (Nat.zero_le _) rfl) ⟨b, off, none⟩ xs.length c (xs.map (Value.int .i64)) rfl (by simp) ?c1 ?c2 ?c3 ?c4 ?c5 ?_)
  case c1 => exact (H.out.ext ((Below.refl _ _).alloc (Nat.le_refl _) _)).full _ rfl
  case c2 => intro u hu; simp at hu; obtain ⟨_, _, rfl⟩ := hu; rfl
  case c3 => have := HN.out; unfold maxLen; omega
  case c4 => have := HN.out; omega
  case c5 => simp
  intro v' w1 hown hgrow _
  have HO : Hid (w1.ownsRow w.heap.size 3 1 v' xs.length (xs.map (Value.int .i64))) := Lib.hid (by simpa using hown)
  have HB : Hid (Below w.heap.size w w1) := Lib.hid (((Below.refl w.heap.size w).alloc (Nat.le_refl _) (.cells #[] 3)).grown hgrow (by simp) (fun k hk => by simp [Value.ownBlock] at hk; omega))
  clear hown hgrow hnil
  go_wp2_with fail
  go_ret
  exact ⟨_, rfl, HO.out, HB.out⟩

theorem seatV_one {se : Nat → Se} {P : Nat → Value} {n : Nat} (h : ∀ i, i < n → (P i).oneCell' = true) : ∀ u ∈ tab (n * 8) (seatV se P), u.oneCell' = true := by
  intro u hu
  simp only [tab, List.mem_map, List.mem_range] at hu
  obtain ⟨k, hk, rfl⟩ := hu
  unfold seatV
  split
  · rfl
  · split
    · rfl
    · split
      · rfl
      · split
        · rfl
        · exact h _ (by omega)
theorem Pg.one {w : World} {v : Value} {l : List Ins} (h : Pg w v l) : v.oneCell' = true := by
  obtain ⟨A, c, rfl, _⟩ := h
  rfl
/-- The owners, as a list. -/
def Ma.owL (M : Ma) : List Int := (List.range M.ng).map M.ow
theorem Ma.owL_len (M : Ma) : M.owL.length = M.ng := by simp [Ma.owL]
theorem Ma.owL_map (M : Ma) : M.owL.map (Value.int .i64) = tab M.ng (intV M.ow) := by
  unfold Ma.owL tab
  rw [List.map_map]
  rfl
theorem own_slI {w : World} {base q n c : Nat} {f : Nat → Int} (h : w.ownsRow base 3 1 (.slice (some ⟨q, 0, none⟩) n c) n (tab n (intV f))) : SlI w (some ⟨q, 0, none⟩) ((List.range n).map f) := fun _ =>
  ⟨q, 0, rfl, lt_own h rfl, fun i hi => by
    have hi' : i < n := by simpa using hi
    have e : ((List.range n).map f)[i]?.getD 0 = f i := by simp [hi']
    rw [e, Nat.zero_add]
    exact own_cell h (tab_at _ hi')⟩
theorem clone_own {base q n c : Nat} {f : Nat → Int} (w : World) (h : w.ownsRow base 3 1 (.slice (some ⟨q, 0, none⟩) n c) n (tab n (intV f))) (h0 : 0 < n) (hn : n ≤ 1000) :
    Calls Tryd.prog 65 #[.slice (some ⟨q, 0, none⟩) n c] w fun e w' => ∃ v, e = .returned v ∧ w'.ownsRow w.heap.size 3 1 v n (tab n (intV f)) ∧ Below w.heap.size w w' := by
  have := clone_int (some ⟨q, 0, none⟩) ((List.range n).map f) c w (own_slI h) (by simpa using h0) (by simpa using hn)
  rw [List.length_map, List.length_range, List.map_map] at this
  exact this

/-- A machine's copy that is being made: its first i programs are its own. -/
structure Ac (w wr : World) (i lo hi p qs qo pm lm hm cs co p' qs' qo' pm' lm' hm' cs' co' : Nat) (P P' : Nat → Value) (M : Ma) : Prop where
  src : Mk wr lo hi p qs qo pm lm hm cs co P M
  top : wr.heap[p']? = some (.cells #[.int .i64 M.m.c.co, .int .i64 M.m.c.gr, .int .i64 M.m.c.se, .int .i64 M.m.c.wa, .int .i64 M.m.c.de, .int .i64 M.m.c.en, .int .i64 M.m.c.ba, .slice (some ⟨qs', 0, none⟩) M.nc cs', .slice (some ⟨qo', 0, none⟩) M.ng co', .pointer (some ⟨pm', 0, none⟩)] 116 (0, 0))
  st : wr.ownsRow w.heap.size 118 8 (.slice (some ⟨qs', 0, none⟩) M.nc cs') M.nc (tab (M.nc * 8) (seatV M.se P'))
  ow : wr.ownsRow w.heap.size 3 1 (.slice (some ⟨qo', 0, none⟩) M.ng co') M.ng (tab M.ng (intV M.ow))
  old : ∀ j, i ≤ j → j < M.nc → P' j = P j
  new : ∀ j, j < i → Pg wr (P' j) (M.se j).ps ∧ ∀ b, (P' j).ownBlock = some b → p' < b ∧ b < wr.heap.size
  mm : Bm wr lm' hm' pm' M.m
  bd : w.heap.size ≤ qs' ∧ qs' < qo' ∧ qo' < lm' ∧ hm' ≤ p' ∧ p' < wr.heap.size
  hi' : hi ≤ w.heap.size
  be : Below w.heap.size w wr
section
variable {w wr : World} {i lo hi p qs qo pm lm hm cs co p' qs' qo' pm' lm' hm' cs' co' : Nat} {P P' : Nat → Value} {M : Ma}
theorem Ac.ext {w' : World} (h : Ac w wr i lo hi p qs qo pm lm hm cs co p' qs' qo' pm' lm' hm' cs' co' P P' M) (hb : Below wr.heap.size wr w') : Ac w w' i lo hi p qs qo pm lm hm cs co p' qs' qo' pm' lm' hm' cs' co' P P' M := by
  obtain ⟨d1, d2, d3, d4, d5⟩ := h.bd
  have := hb.size
  exact ⟨h.src.ext hb, (hb.block _ d5).trans h.top, row_keep h.st (fun g hg => hb.block g (lt_own h.st hg)), row_keep h.ow (fun g hg => hb.block g (lt_own h.ow hg)), h.old,
    fun j hj => ⟨(h.new j hj).1.ext hb, fun b hbb => ⟨((h.new j hj).2 b hbb).1, Nat.lt_of_lt_of_le ((h.new j hj).2 b hbb).2 this⟩⟩, h.mm.ext hb, ⟨d1, d2, d3, d4, by omega⟩, h.hi', ext_trans h.be hb⟩
theorem Ac.next {w4 : World} (h : Ac w wr i lo hi p qs qo pm lm hm cs co p' qs' qo' pm' lm' hm' cs' co' P P' M) (hi2 : i < M.nc) (hb : Below wr.heap.size wr w4) {v : Value} (hP : Pg w4 v (M.se i).ps) (hv : ∀ g, v.ownBlock = some g → wr.heap.size ≤ g ∧ g < w4.heap.size) :
    Ac w (w4.setCell ⟨qs', i * 8 + 7, none⟩ v) (i + 1) lo hi p qs qo pm lm hm cs co p' qs' qo' pm' lm' hm' cs' co' P (updN P' i v) M := by
  have k := h.ext hb
  obtain ⟨d1, d2, d3, d4, d5⟩ := k.bd
  have hd5 := h.bd.2.2.2.2
  have hsz := h.src.sz
  have hz := k.mm.sz
  have hb8 : ∀ g, g ≠ qs' → (w4.setCell ⟨qs', i * 8 + 7, none⟩ v).heap[g]? = w4.heap[g]? := fun g hg => Below.heap_setCell _ _ _ _ hg
  refine ⟨k.src.keep (fun g h1 h2 => hb8 g (by have := h.hi'; omega)) (by simp), (hb8 _ (by have := k.mm.sz; omega)).trans k.top, ?_, row_keep k.ow (fun g hg => hb8 g (by have e : qo' = g := Option.some.inj hg; omega)), fun j h1 h2 => ?_, fun j hj => ?_, k.mm.keep (fun g h1 h2 => hb8 g (by omega)) (by simp), ⟨d1, d2, d3, d4, by simpa using d5⟩, h.hi', ?_⟩
  · have := own_set k.st (i * 8 + 7) v
    rw [tab_set (g := seatV M.se (updN P' i v)) (by rw [seatV_7, updN_same]) (fun x _ hx => ?_)] at this
    · exact this
    · by_cases hxi : x / 8 = i
      · have e : x = i * 8 + x % 8 := by omega
        rw [e]
        have : x % 8 = 0 ∨ x % 8 = 1 ∨ x % 8 = 2 ∨ x % 8 = 3 ∨ x % 8 = 4 ∨ x % 8 = 5 ∨ x % 8 = 6 := by omega
        rcases this with h0 | h0 | h0 | h0 | h0 | h0 | h0 <;> rw [h0]
        · rw [seatV_reg _ _ _ _ (by omega), seatV_reg _ _ _ _ (by omega)]
        · rw [seatV_reg _ _ _ _ (by omega), seatV_reg _ _ _ _ (by omega)]
        · rw [seatV_reg _ _ _ _ (by omega), seatV_reg _ _ _ _ (by omega)]
        · rw [seatV_reg _ _ _ _ (by omega), seatV_reg _ _ _ _ (by omega)]
        · rw [seatV_4, seatV_4]
        · rw [seatV_5, seatV_5]
        · rw [seatV_6, seatV_6]
      · exact seatV_other _ _ _ _ _ rfl (updN_ne _ _ hxi)
  · rw [updN_ne _ _ (by omega)]
    exact h.old j (by omega) h2
  · by_cases hji : j = i
    · subst hji
      rw [updN_same]
      refine ⟨hP.keep fun g hg => hb8 g (by have := hv g hg; omega), fun b hbb => ?_⟩
      have := hv b hbb
      exact ⟨by omega, by simpa using this.2⟩
    · rw [updN_ne _ _ hji]
      obtain ⟨h1, h2⟩ := k.new j (by omega)
      exact ⟨h1.keep fun g hg => hb8 g (by have := h2 g hg; have := k.mm.sz; omega), fun b hbb => by have := h2 b hbb; simpa using this⟩
  · have := h.be.size
    exact k.be.setCell (p := ⟨qs', i * 8 + 7, none⟩) (by show w.heap.size ≤ qs'; omega) _
theorem Ac.done (h : Ac w wr M.nc lo hi p qs qo pm lm hm cs co p' qs' qo' pm' lm' hm' cs' co' P P' M) : Mk wr w.heap.size wr.heap.size p' qs' qo' pm' lm' hm' cs' co' P' M := by
  obtain ⟨d1, d2, d3, d4, d5⟩ := h.bd
  have hz := h.mm.sz
  have := h.src.gl
  have := h.src.sz
  have := h.src.bd
  have := h.hi'
  refine ⟨h.top, h.st, h.ow, fun i hi => ⟨(h.new i hi).1, fun b hb => ?_⟩, h.mm, ⟨by omega, by omega, by omega, by omega, by omega, by omega, by omega, by omega⟩, ⟨by omega, by omega, by omega, by omega, by omega, by omega⟩, Nat.le_refl _, by omega⟩
  have := (h.new i hi).2 b hb
  omega
end
end Go.Proofs.YtkobeajbiendlaaDoor
namespace Go.Proofs.YtkobeajbiendlaaDoor
open Go.RowKit

section
variable {w : World} {lo hi p qs qo pm lm hm cs co : Nat} {P : Nat → Value} {M : Ma}
theorem ac_zero {w1 w2 w3 : World} {qs' qo' pm' cs' co' : Nat} (h : Mk w lo hi p qs qo pm lm hm cs co P M) (hs : w1.ownsRow w.heap.size 118 8 (.slice (some ⟨qs', 0, none⟩) M.nc cs') M.nc (tab (M.nc * 8) (seatV M.se P))) (hb1 : Below w.heap.size w w1)
    (ho : w2.ownsRow w1.heap.size 3 1 (.slice (some ⟨qo', 0, none⟩) M.ng co') M.ng (tab M.ng (intV M.ow))) (hb2 : Below w1.heap.size w1 w2) (hm' : Bm w3 w2.heap.size w3.heap.size pm' M.m) (hb3 : Below w2.heap.size w2 w3) :
    Ac w (w3.alloc (.cells #[.int .i64 M.m.c.co, .int .i64 M.m.c.gr, .int .i64 M.m.c.se, .int .i64 M.m.c.wa, .int .i64 M.m.c.de, .int .i64 M.m.c.en, .int .i64 M.m.c.ba, .slice (some ⟨qs', 0, none⟩) M.nc cs', .slice (some ⟨qo', 0, none⟩) M.ng co', .pointer (some ⟨pm', 0, none⟩)] 116)) 0 lo hi p qs qo pm lm hm cs co w3.heap.size qs' qo' pm' w2.heap.size w3.heap.size cs' co' P P M := by
  have hbw := ext_trans (ext_trans hb1 hb2) hb3
  have b2 := ext_trans hb2 hb3
  have l1 : qs' < w1.heap.size := lt_own hs rfl
  have l2 : qo' < w2.heap.size := lt_own ho rfl
  have g1 : w.heap.size ≤ qs' := own_ge hs rfl
  have g2 : w1.heap.size ≤ qo' := own_ge ho rfl
  have z1 := hb1.size
  have z2 := hb2.size
  have z3 := hb3.size
  refine ⟨h.ext (ext_alloc _ hbw), alNew rfl, row_keep hs (fun g hg => ?_), row_mono (row_keep ho (fun g hg => ?_)) z1, fun _ _ _ => rfl, fun j hj => absurd hj (by omega), hm'.ext (ext_alloc _ (Below.refl _ _)), ⟨g1, by omega, l2, Nat.le_refl _, by simp⟩, h.sz, ext_alloc _ hbw⟩
  · have := lt_own hs hg
    exact (Below.heap_alloc _ _ _ (by omega)).trans (b2.block _ this)
  · have := lt_own ho hg
    exact (Below.heap_alloc _ _ _ (by omega)).trans (hb3.block _ this)
set_option maxRecDepth 100000 in
set_option maxHeartbeats 4000000 in
theorem acopy_ok (h : Mk w lo hi p qs qo pm lm hm cs co P M) (hl : ∀ i, i < M.nc → (M.se i).ps.length ≤ 1000) :
    Calls Tryd.prog 39 #[.pointer (some ⟨p, 0, none⟩)] w fun e w' => ∃ p', e = .returned (.pointer (some ⟨p', 0, none⟩)) ∧ Mc w' w.heap.size w'.heap.size p' M ∧ Below w.heap.size w w' := by
  have hn := Ma.n_of h.mm.ok
  have hn1 : 1 ≤ M.nc ∧ M.nc ≤ 4 := by omega
  have hg1 : 1 ≤ M.ng ∧ M.ng ≤ 16 := by omega
  have H := Lib.hid h
  have HL := Lib.hid hl
  have HN := Lib.hid hn1
  have HG := Lib.hid hg1
  have QQ := h.top
  obtain ⟨hp, _, _⟩ := h.lt
  have HC := Lib.hid (clone_seat w.drew (row_keep (w' := w.drew) h.st (fun _ _ => rfl)) (seatV_one fun i hi => (h.pg i hi).1.one) (by omega))
  obtain ⟨t0, t1, t2, t3, t4, t5, t6, t7, t8, t9⟩ := ten_at h.top
  clear h hl hn hn1 hg1
  go_enter Tryd.func39, Tryd.ntmps39
  go_wp2_with fail
  clear t0 t1 t2 t3 t4 t5 t6 t7 t8 t9
  go_region_held3 (fun w' => w'.cell? ⟨p, 0, none⟩ = some (.int .i64 M.m.c.co) ∧ w'.cell? ⟨p, 1, none⟩ = some (.int .i64 M.m.c.gr) ∧ w'.cell? ⟨p, 2, none⟩ = some (.int .i64 M.m.c.se) ∧ w'.cell? ⟨p, 3, none⟩ = some (.int .i64 M.m.c.wa) ∧ w'.cell? ⟨p, 4, none⟩ = some (.int .i64 M.m.c.de) ∧ w'.cell? ⟨p, 5, none⟩ = some (.int .i64 M.m.c.en) ∧ w'.cell? ⟨p, 6, none⟩ = some (.int .i64 M.m.c.ba) ∧ w'.cell? ⟨p, 7, none⟩ = some (.slice (some ⟨qs, 0, none⟩) M.nc cs) ∧ w'.cell? ⟨p, 8, none⟩ = some (.slice (some ⟨qo, 0, none⟩) M.ng co) ∧ w'.cell? ⟨p, 9, none⟩ = some (.pointer (some ⟨pm, 0, none⟩)))
    (first | exact ten_at QQ | exact ten_at (alOld QQ))
    (first
      | (go_at_call 64; refine HC.out.mono ?_; rintro e w1 ⟨v, rfl, ho, hb⟩; obtain ⟨qs', cs', rfl⟩ := form_pos ho HN.out.1; have HO1 := Lib.hid ho; have HB1 := Lib.hid (ext_trans (ext_drew (Below.refl _ w)) hb); have QQ := (H.out.ext HB1.out).top; clear ho hb)
      | (go_at_call 65; refine (clone_own w1 (H.out.ext HB1.out).ow HG.out.1 (by have := HG.out; omega)).mono ?_; rintro e w2 ⟨v, rfl, ho, hb⟩; obtain ⟨qo', co', rfl⟩ := form_pos ho HG.out.1; have HO2 := Lib.hid ho; have HB12 := Lib.hid hb; have HB2 := Lib.hid (ext_trans HB1.out hb); have QQ := (H.out.ext HB2.out).top; clear ho hb)
      | (go_at_call 66; refine (bcopy_ok (H.out.ext HB2.out).mm).mono ?_; rintro e w3 ⟨pm', rfl, hm', hb⟩; have HM3 := Lib.hid hm'; have HB23 := Lib.hid hb; have HB3 := Lib.hid (ext_trans HB2.out hb); have QQ := (H.out.ext HB3.out).top; clear hm' hb))
  clear QQ hp HC
  have HP := Lib.hid (ac_zero H.out HO1.out HB1.out HO2.out HB12.out HM3.out HB23.out)
  obtain ⟨t0, t1, t2, t3, t4, t5, t6, t7, t8, t9⟩ := ten_at HP.out.top
  have hl := HP.out.bd.2.2.2.2
  generalize w3.heap.size = p' at *
  go_wp2_with fail
  go_loopg [33] M.nc (fun g s33 wr => ∃ (i : Nat) (P' : Nat → Value), s33 = .int .i64 i ∧ i + g = M.nc ∧ Hid (Ac w wr i lo hi p qs qo pm lm hm cs co p' qs' qo' pm' w2.heap.size p' cs' co' P P' M))
  case atStart => exact ⟨0, P, rfl, by omega, HP⟩
  case round =>
    obtain ⟨i, P', rfl, hi, HR⟩ := hrel
    by_cases hlt : i < M.nc
    · have ek : decide ((i : Int) < (M.nc : Int)) = true := by simp; omega
      clear t0 t1 t2 t3 t4 t5 t6 t7 t8 t9
      go_wp2_with fail
      have HLI := Lib.hid hlt
      have hi4 : (i : Int) ≤ 4 := by have := HN.out.2; omega
      obtain ⟨t0, t1, t2, t3, t4, t5, t6, t7, t8, t9⟩ := ten_at HR.out.top
      have hl1 := HR.out.bd.2.2.2.2
      have hqs : qs' < wr.heap.size := lt_own HR.out.st rfl
      have hpq : p' ≠ qs' := by have := HR.out.bd; have := HR.out.mm.sz; omega
      have hx : wr.cell? ⟨qs', i * 8 + 7, none⟩ = some (P' i) := by rw [own_cell HR.out.st (tab_at _ (by omega)), seatV_7]
      obtain ⟨A, cc, hA, hS, hA0⟩ := (HR.out.src.pg i hlt).1
      have hPi := HR.out.old i (Nat.le_refl _) hlt
      rw [hPi, hA] at hx
      have hxq := own_free HR.out.st (i * 8 + 7)
      have HX := Lib.hid hx
      have HXQ := Lib.hid hxq
      have HCN := Lib.hid (iclone_any A (M.se i).ps cc wr.drew hS hA0 (HL.out i hlt))
      have HII := Lib.hid hi
      have HR0 := Lib.hid hlt
      generalize hps : (M.se i).ps = ps at *
      have HPS := Lib.hid hps
      clear hPi hA hS hA0 hps hi hlt
      go_region_with (go_at_call 45; refine HCN.out.mono ?_; rintro e w4 ⟨v', rfl, ho, hv, hb⟩; have HO4 := Lib.hid ho; have HV4 := Lib.hid hv; have HB4 := Lib.hid (ext_trans (ext_drew (Below.refl _ wr)) hb); obtain ⟨i0, i1, i2, i3, i4, i5, i6, i7, i8, i9⟩ := ten_at (HR.out.ext HB4.out).top; have hl3 := Nat.lt_of_lt_of_le hl1 hb.size; have hl4 := Nat.lt_of_lt_of_le hqs hb.size; have hx4 := (hb.cell (p := ⟨qs', i * 8 + 7, none⟩) hqs).trans HX.out; have hf4 := (hb.frozen (p := ⟨qs', i * 8 + 7, none⟩) hqs).trans HXQ.out; obtain ⟨A4, c4, rfl, _, _⟩ := ho; clear hv hb)
      all_goals
        have HN4 := Lib.hid (HR.out.next HLI.out HB4.out (v := .slice A4 ps.length c4) (by rw [HPS.out]; exact HO4.out) HV4.out)
        clear hx4 hf4 i0 i1 i2 i3 i4 i5 i6 i7 i8 i9 t0 t1 t2 t3 t4 t5 t6 t7 t8 t9 hx hxq
        go_wp2_with fail
        go_roundg (M.nc - (i + 1))
        case measure => have := HLI.out; have := HII.out; omega
        case rel => exact ⟨i + 1, _, by go_num, by have := HLI.out; omega, Lib.hid (by first | exact HN4.out | exact HN4.out.ext (ext_drew (Below.refl _ _)))⟩
    · have ek : decide ((i : Int) < (M.nc : Int)) = false := by simp; omega
      obtain rfl : i = M.nc := by omega
      have HE := Lib.hid HR.out.done
      have HBE := Lib.hid HR.out.be
      clear t0 t1 t2 t3 t4 t5 t6 t7 t8 t9
      go_wp2_with fail
      go_ret
      exact ⟨_, rfl, ⟨_, _, _, _, _, _, _, _, HE.out⟩, HBE.out⟩
end
end Go.Proofs.YtkobeajbiendlaaDoor
namespace Go.Proofs.YtkobeajbiendlaaDoor
open Go.RowKit

/-- A program as an argument. -/
structure Pr where
  A : Option Addr
  c : Nat
  ps : List Ins
def Pr.none : Pr := ⟨Option.none, 0, []⟩
def atR (l : List Pr) (i : Nat) : Pr := l[i]?.getD Pr.none
/-- Programs in memory. -/
structure SlR (w : World) (A : Option Addr) (l : List Pr) : Prop where
  cells : 0 < l.length → ∃ b off, A = some ⟨b, off, none⟩ ∧ b < w.heap.size ∧ ∀ i, i < l.length → w.cell? ⟨b, off + i, none⟩ = some (.slice (atR l i).A (atR l i).ps.length (atR l i).c)
  ins : ∀ i, i < l.length → SlN w (atR l i).A (atR l i).ps ∧ ((atR l i).A = Option.none → (atR l i).ps.length = 0 ∧ (atR l i).c = 0)
theorem SlR.ext {w w' : World} {A : Option Addr} {l : List Pr} (h : SlR w A l) (hb : Below w.heap.size w w') : SlR w' A l :=
  ⟨fun h0 => by
    obtain ⟨b, off, hA, hl, hc⟩ := h.cells h0
    exact ⟨b, off, hA, Nat.lt_of_lt_of_le hl hb.size, fun i hi => (hb.cell (p := ⟨b, off + i, none⟩) hl).trans (hc i hi)⟩, fun i hi => ⟨(h.ins i hi).1.ext hb, (h.ins i hi).2⟩⟩
/-- What is wrong with the first program that may not be. -/
def badP : List Pr → Int
  | [] => 0
  | x :: r => if (chkP x.ps).2 = 0 then badP r else (chkP x.ps).2
theorem badP_app : ∀ a b : List Pr, badP (a ++ b) = if badP a = 0 then badP b else badP a
  | [], b => by simp [badP]
  | x :: r, b => by
    have ih := badP_app r b
    by_cases h : (chkP x.ps).2 = 0
    · simp [badP, h, ih]
    · simp [badP, h]
theorem take_succR {l : List Pr} {k : Nat} (hk : k < l.length) : l.take (k + 1) = l.take k ++ [atR l k] := by
  rw [List.take_add_one]
  congr 1
  unfold atR
  rw [List.getElem?_eq_getElem hk]
  rfl
theorem badP_one (x : Pr) : badP [x] = (chkP x.ps).2 := by
  simp only [badP]
  split
  · rename_i h; exact h.symm
  · rfl
theorem badP_take {l : List Pr} {k : Nat} (hk : k < l.length) (h : badP (l.take k) = 0) : badP (l.take (k + 1)) = (chkP (atR l k).ps).2 := by
  rw [take_succR hk, badP_app, if_pos h, badP_one]
theorem badP_of {l : List Pr} {k : Nat} (h : badP (l.take k) ≠ 0) : badP l = badP (l.take k) := by
  have := badP_app (l.take k) (l.drop k)
  rw [List.take_append_drop, if_neg h] at this
  exact this
theorem badP_all {l : List Pr} (h : badP l = 0) : ∀ i, i < l.length → (chkP (atR l i).ps).2 = 0 := by
  induction l with
  | nil => intro i hi; simp at hi
  | cons x r ih =>
    intro i hi
    have h0 : (chkP x.ps).2 = 0 := by
      simp only [badP] at h
      split at h
      · assumption
      · exact h
    cases i with
    | zero => exact h0
    | succ i =>
      have h1 : badP r = 0 := by simpa [badP, h0] using h
      exact ih h1 i (by simpa using hi)
/-- Why there is no machine. -/
def newE11 (c : Cfg) (l : List Pr) (ws os ds : List Int) : Int :=
  if ¬ c.ok then 10
  else if (l.length : Int) ≠ c.co ∨ (ws.length : Int) ≠ c.co ∨ (os.length : Int) ≠ c.gr ∨ (ds.length : Int) ≠ 4 * c.gr then 1
  else if badP l ≠ 0 then badP l
  else if allIn 0 3 ws = false ∨ allIn 0 4 os = false then 10 else 0
def Se.zero : Se := ⟨fun _ => 0, 0, 0, false, []⟩
def seOne (x : Pr) (wo : Int) : Se := ⟨fun _ => 0, 0, wo, endB x.ps 0, x.ps⟩
def seNew (l : List Pr) (ws : List Int) (k i : Nat) : Se := if i < k then seOne (atR l i) (ws[i]?.getD 0) else Se.zero
def wdNew (ds : List Int) (k i : Nat) : Int := if i < k then ds[i]?.getD 0 else 0
def mmNew (c : Cfg) (ds : List Int) (k : Nat) : Mm := ⟨c, wdNew ds k, fun _ => 0, fun _ => 0⟩
def maNew (c : Cfg) (l : List Pr) (ws os ds : List Int) (k : Nat) : Ma := ⟨mmNew c ds ds.length, seNew l ws k, fun g => os[g]?.getD 0⟩
theorem mmNew_zero (c : Cfg) (ds : List Int) : mmNew c ds 0 = Mm.zero c := by
  unfold mmNew Mm.zero
  congr 1
theorem wdNew_next (ds : List Int) (k : Nat) : updN (wdNew ds k) k (ds[k]?.getD 0) = wdNew ds (k + 1) := by
  funext i
  by_cases h : i = k
  · subst h
    rw [updN_same]
    unfold wdNew
    rw [if_pos (Nat.lt_succ_self i)]
  · rw [updN_ne _ _ h]
    unfold wdNew
    by_cases h2 : i < k
    · rw [if_pos h2, if_pos (by omega)]
    · rw [if_neg h2, if_neg (by omega)]
theorem mmNew_next (c : Cfg) (ds : List Int) (k : Nat) : { mmNew c ds k with wd := updN (mmNew c ds k).wd k (ds[k]?.getD 0) } = mmNew c ds (k + 1) := by
  show (⟨c, updN (wdNew ds k) k (ds[k]?.getD 0), fun _ => 0, fun _ => 0⟩ : Mm) = ⟨c, wdNew ds (k + 1), fun _ => 0, fun _ => 0⟩
  rw [wdNew_next]
section
variable {w : World} {lo hi p qs qo pm lm hm cs co : Nat} {P : Nat → Value} {M : Ma}
theorem Mk.grow (h : Mk w lo hi p qs qo pm lm hm cs co P M) {hi' : Nat} (h1 : hi ≤ hi') (h2 : hi' ≤ w.heap.size) : Mk w lo hi' p qs qo pm lm hm cs co P M := by
  obtain ⟨b1, b2, b3, b4, b5, b6, b7, b8⟩ := h.bd
  exact ⟨h.top, h.st, h.ow, fun i hx => ⟨(h.pg i hx).1, fun b hb => by have := (h.pg i hx).2 b hb; omega⟩, h.mm, ⟨b1, by omega, b3, by omega, b5, by omega, b7, by omega⟩, h.ne, h2, h.gl⟩
/-- A core gets its program. -/
theorem Mk.prog_set (h : Mk w lo hi p qs qo pm lm hm cs co P M) (i : Nat) (v : Value) (l : List Ins) (hP : Pg w v l) (hv : ∀ b, v.ownBlock = some b → lo ≤ b ∧ b < hi ∧ b ≠ qs ∧ b ≠ qo ∧ (b < lm ∨ hm ≤ b)) :
    Mk (w.setCell ⟨qs, i * 8 + 7, none⟩ v) lo hi p qs qo pm lm hm cs co (updN P i v) { M with se := updN M.se i { M.se i with ps := l } } := by
  obtain ⟨n1, n2, n3, n4, n5, n6⟩ := h.ne
  have hb : ∀ g, g ≠ qs → (w.setCell ⟨qs, i * 8 + 7, none⟩ v).heap[g]? = w.heap[g]? := fun g hg => Below.heap_setCell _ _ _ _ hg
  refine ⟨(hb p n1).trans h.top, ?_, row_keep h.ow (fun g hg => by obtain rfl := Option.some.inj hg; exact hb _ (fun e => n3 e.symm)), fun x hx => ?_, h.mm.keep (fun k h1 h2 => hb k (by omega)) (by simp), h.bd, h.ne, by simpa using h.sz, h.gl⟩
  · have := own_set h.st (i * 8 + 7) v
    rw [tab_set (g := seatV (updN M.se i { M.se i with ps := l }) (updN P i v)) (by rw [seatV_7, updN_same]) (fun k _ hk => ?_)] at this
    · exact this
    · by_cases hki : k / 8 = i
      · have e : k = i * 8 + k % 8 := by omega
        rw [e]
        have : k % 8 = 0 ∨ k % 8 = 1 ∨ k % 8 = 2 ∨ k % 8 = 3 ∨ k % 8 = 4 ∨ k % 8 = 5 ∨ k % 8 = 6 := by omega
        rcases this with h0 | h0 | h0 | h0 | h0 | h0 | h0 <;> rw [h0]
        · rw [seatV_reg _ _ _ _ (by omega), seatV_reg _ _ _ _ (by omega), updN_same]
        · rw [seatV_reg _ _ _ _ (by omega), seatV_reg _ _ _ _ (by omega), updN_same]
        · rw [seatV_reg _ _ _ _ (by omega), seatV_reg _ _ _ _ (by omega), updN_same]
        · rw [seatV_reg _ _ _ _ (by omega), seatV_reg _ _ _ _ (by omega), updN_same]
        · rw [seatV_4, seatV_4, updN_same]
        · rw [seatV_5, seatV_5, updN_same]
        · rw [seatV_6, seatV_6, updN_same]
      · exact seatV_other _ _ _ _ _ (updN_ne _ _ hki) (updN_ne _ _ hki)
  · by_cases hxi : x = i
    · subst hxi
      show Pg _ (updN P x v x) (updN M.se x { M.se x with ps := l } x).ps ∧ ∀ b, (updN P x v x).ownBlock = some b → _
      rw [updN_same, updN_same]
      exact ⟨hP.keep fun g hg => hb g (hv g hg).2.2.1, hv⟩
    · show Pg _ (updN P i v x) (updN M.se i { M.se i with ps := l } x).ps ∧ ∀ b, (updN P i v x).ownBlock = some b → _
      rw [updN_ne _ _ hxi, updN_ne _ _ hxi]
      obtain ⟨h1, h2⟩ := h.pg x hx
      exact ⟨h1.keep fun k hk => hb k (h2 k hk).2.2.1, h2⟩
end
theorem seNew_next (l : List Pr) (ws : List Int) (k : Nat) : updN (updN (updN (seNew l ws k) k { seNew l ws k k with ps := (atR l k).ps }) k ⟨fun _ => 0, 0, ws[k]?.getD 0, false, (atR l k).ps⟩) k ⟨fun _ => 0, 0, ws[k]?.getD 0, endB (atR l k).ps 0, (atR l k).ps⟩ = seNew l ws (k + 1) := by
  funext i
  by_cases h : i = k
  · subst h
    rw [updN_same]
    unfold seNew
    rw [if_pos (Nat.lt_succ_self i)]
    rfl
  · rw [updN_ne _ _ h, updN_ne _ _ h, updN_ne _ _ h]
    unfold seNew
    by_cases h2 : i < k
    · rw [if_pos h2, if_pos (by omega)]
    · rw [if_neg h2, if_neg (by omega)]
/-- One core more. -/
theorem maNew_next (c : Cfg) (l : List Pr) (ws os ds : List Int) (k : Nat) :
    (Ma.setWo { maNew c l ws os ds k with se := updN (maNew c l ws os ds k).se k { (maNew c l ws os ds k).se k with ps := (atR l k).ps } } k (ws[k]?.getD 0)).turn k 0 = maNew c l ws os ds (k + 1) := by
  have h0 : seNew l ws k k = Se.zero := by unfold seNew; rw [if_neg (Nat.lt_irrefl k)]
  unfold Ma.turn Ma.setWo maNew
  dsimp only
  simp only [updN_same]
  congr 1
  rw [← seNew_next, h0]
  rfl
theorem mk_seat (n : Nat) (h1 : 1 ≤ n) (h4 : n ≤ 4) (w : World) : (Instr.makeSlice 113 (.int .i64 n) (.int .i64 n)).run Tryd.prog w =
    .ok (.slice (some ⟨w.heap.size, 0, none⟩) n n) (w.alloc (.cells (tab (n * 8) (seatV (fun _ => Se.zero) fun _ => .slice none 0 0)).toArray 118)) := by
  obtain ⟨i0, hi, hz0, hz1, hz2⟩ := info_parts info_seat
  rw [run_make (P := Tryd.prog) w 113 118 i0 _ Tryd.underlying113 hi hz0 .i64 .i64 n n (by omega) (Int.le_refl _) (by rw [hz2]; omega) (by omega), hz1]
  have e : madeCells (Value.agg #[.int .i64 0, .int .i64 0, .int .i64 0, .int .i64 0, .int .i64 0, .int .i64 0, .bool false, .slice none 0 0]).cells ((n : Int).toNat * 8) = (tab (n * 8) (seatV (fun _ => Se.zero) fun _ => .slice none 0 0)).toArray := by
    have h0 : (Value.agg #[.int .i64 0, .int .i64 0, .int .i64 0, .int .i64 0, .int .i64 0, .int .i64 0, .bool false, .slice none 0 0]).cells = #[.int .i64 0, .int .i64 0, .int .i64 0, .int .i64 0, .int .i64 0, .int .i64 0, .bool false, .slice none 0 0] := rfl
    rw [h0]
    apply Array.toList_inj.1
    unfold madeCells tab
    simp only [Array.toList_map, Array.toList_range, Int.toNat_natCast]
    apply List.map_congr_left
    intro k _
    have hk : k % 8 = 0 ∨ k % 8 = 1 ∨ k % 8 = 2 ∨ k % 8 = 3 ∨ k % 8 = 4 ∨ k % 8 = 5 ∨ k % 8 = 6 ∨ k % 8 = 7 := by omega
    rcases hk with h | h | h | h | h | h | h | h <;> simp [seatV, Se.zero, h]
  rw [e]
  simp
theorem seat_row {W : World} {n b lo : Nat} {V : List Value} (h4 : n ≤ 4) (hb : lo ≤ b) (hx : W.heap[b]? = some (.cells V.toArray 118 (0, 0))) (hV : V.length = n * 8) :
    W.ownsRow lo 118 8 (.slice (some ⟨b, 0, none⟩) n n) n V :=
  ⟨hV, .inr ⟨b, n, _, rfl, hb, hx, Nat.le_refl _, by unfold maxLen; omega, by simp [hV], List.take_of_length_le (by simp [hV])⟩⟩
theorem os_tab (os : List Int) : os.map (Value.int .i64) = tab os.length (intV fun g => os[g]?.getD 0) := by
  apply List.ext_getElem?
  intro i
  by_cases hi : i < os.length
  · rw [tab_at _ hi]
    simp [intV, hi]
  · rw [List.getElem?_eq_none (by simp; omega), List.getElem?_eq_none (by simp; omega)]
theorem mk_new {c : Cfg} {l : List Pr} {ws os ds : List Int} {W : World} {lo qs qo p pm lm hm co : Nat} (h1 : (l.length : Int) = c.co) (h3 : (os.length : Int) = c.gr) (h4 : l.length ≤ 4) (hm' : Bm W lm hm pm (mmNew c ds ds.length))
    (hst : W.heap[qs]? = some (.cells (tab (l.length * 8) (seatV (fun _ => Se.zero) fun _ => .slice none 0 0)).toArray 118 (0, 0)))
    (how : W.ownsRow lo 3 1 (.slice (some ⟨qo, 0, none⟩) os.length co) os.length (os.map (Value.int .i64)))
    (htop : W.heap[p]? = some (.cells #[.int .i64 c.co, .int .i64 c.gr, .int .i64 c.se, .int .i64 c.wa, .int .i64 c.de, .int .i64 c.en, .int .i64 c.ba, .slice (some ⟨qs, 0, none⟩) l.length l.length, .slice (some ⟨qo, 0, none⟩) os.length co, .pointer (some ⟨pm, 0, none⟩)] 116 (0, 0)))
    (b1 : lo ≤ lm) (b2 : hm ≤ qs) (b3 : hm ≤ qo) (b4 : hm ≤ p) (b5 : qs ≠ qo) (b6 : p ≠ qs) (b7 : p ≠ qo) (hl : 1 < lo) :
    Mk W lo W.heap.size p qs qo pm lm hm l.length co (fun _ => .slice none 0 0) (maNew c l ws os ds 0) := by
  have hn : (maNew c l ws os ds 0).nc = l.length := by show c.co.toNat = _; omega
  have hg : (maNew c l ws os ds 0).ng = os.length := by show c.gr.toNat = _; omega
  have z1 := lt_of htop
  have z2 := lt_of hst
  have z3 : qo < W.heap.size := lt_own how rfl
  have z4 := hm'.sz
  have e0 : seNew l ws 0 = fun _ => Se.zero := by funext i; unfold seNew; rw [if_neg (by omega)]
  refine ⟨by rw [hn, hg]; exact htop, by rw [hn]; show W.ownsRow lo _ 8 _ _ (tab _ (seatV (seNew l ws 0) _)); rw [e0]; exact seat_row h4 (by omega) hst (by simp), by rw [hg]; rw [os_tab] at how; exact how, fun i _ => ?_, hm', ⟨by omega, by omega, by omega, by omega, by omega, by omega, b1, by omega⟩, ⟨b6, b7, b5, by omega, by omega, by omega⟩, Nat.le_refl _, hl⟩
  refine ⟨⟨none, 0, ?_, fun h => ?_, fun _ => ?_⟩, fun b hb => by cases hb⟩
  · show _ = Value.slice none (seNew l ws 0 i).ps.length 0
    rw [e0]
    rfl
  · have : (seNew l ws 0 i).ps = [] := by rw [e0]; rfl
    have h : 0 < (seNew l ws 0 i).ps.length := h
    rw [this] at h
    simp at h
  · show (seNew l ws 0 i).ps.length = 0 ∧ _
    rw [e0]
    exact ⟨rfl, rfl⟩
end Go.Proofs.YtkobeajbiendlaaDoor
namespace Go.Proofs.YtkobeajbiendlaaDoor
open Go.RowKit

/-- What New's own box holds. -/
structure Nb (w wr : World) (c : Cfg) : Prop where
  be : Below w.heap.size w wr
  box : wr.heap[w.heap.size]? = some (.cells #[.int .i64 c.co, .int .i64 c.gr, .int .i64 c.se, .int .i64 c.wa, .int .i64 c.de, .int .i64 c.en, .int .i64 c.ba] 65 (0, 0))
theorem Nb.ext {w a b : World} {c : Cfg} (h : Nb w a c) (hb : Below a.heap.size a b) : Nb w b c := ⟨ext_trans h.be hb, (hb.block _ (lt_of h.box)).trans h.box⟩
theorem Nb.rg {w a b : World} {c : Cfg} {lo hi : Nat} (h : Nb w a c) (hr : Rg lo hi a b) (hl : w.heap.size < lo) : Nb w b c := ⟨hr.below h.be (Nat.le_of_lt hl), (hr.block _ (lt_of h.box) (.inl hl)).trans h.box⟩
theorem Nb.new (w : World) (c : Cfg) : Nb w (w.alloc (.cells #[.int .i64 c.co, .int .i64 c.gr, .int .i64 c.se, .int .i64 c.wa, .int .i64 c.de, .int .i64 c.en, .int .i64 c.ba] 65)) c := ⟨ext_alloc _ (Below.refl _ _), alNew rfl⟩

section
variable (c : Cfg) (A B C D : Option Addr) (l : List Pr) (ws os ds : List Int) (c1 c2 c3 c4 : Nat) (w : World)
/-- What New answers. -/
def NewPost (e : Ending) (w' : World) : Prop :=
  ((newE11 c l ws os ds = 0 ∧ ∃ p, e = .returned (.tuple #[.pointer (some ⟨p, 0, none⟩), .int .i64 0]) ∧ Mc w' w.heap.size w'.heap.size p (maNew c l ws os ds l.length)) ∨
    (newE11 c l ws os ds ≠ 0 ∧ e = .returned (.tuple #[.pointer none, .int .i64 (newE11 c l ws os ds)]))) ∧ Below w.heap.size w w'
set_option maxRecDepth 100000 in
theorem anew_cfg (hL : Lims w) (hc : ¬ c.ok) :
    Calls Tryd.prog 56 #[.agg #[.int .i64 c.co, .int .i64 c.gr, .int .i64 c.se, .int .i64 c.wa, .int .i64 c.de, .int .i64 c.en, .int .i64 c.ba], .slice A l.length c1, .slice B ws.length c2, .slice C os.length c3, .slice D ds.length c4] w fun e w' => e = .returned (.tuple #[.pointer none, .int .i64 10]) ∧ Below w.heap.size w w' := by
  have hch := chk_no hc
  have HN := Lib.hid (Nb.new w c)
  have HC := Lib.hid (check_any c _ (hL.ext HN.out.be))
  clear hc hL
  go_enter Tryd.func56, Tryd.ntmps56
  go_wp2_with fail
  refine HC.out.mono ?_
  rintro e w1 ⟨rfl, hb⟩
  have HB := Lib.hid (HN.out.ext hb).be
  clear hb
  go_wp2_with fail
  go_ret2
  exact ⟨rfl, HB.out⟩
set_option maxRecDepth 100000 in
theorem anew_len0 (hL : Lims w) (hc : c.ok) (e1 : ((l.length : Int) != c.co) = true) :
    Calls Tryd.prog 56 #[.agg #[.int .i64 c.co, .int .i64 c.gr, .int .i64 c.se, .int .i64 c.wa, .int .i64 c.de, .int .i64 c.en, .int .i64 c.ba], .slice A l.length c1, .slice B ws.length c2, .slice C os.length c3, .slice D ds.length c4] w fun e w' => e = .returned (.tuple #[.pointer none, .int .i64 1]) ∧ Below w.heap.size w w' := by
  have hch := chk_ok hc
  have HL := Lib.hid hL
  have HN := Lib.hid (Nb.new w c)
  have HC := Lib.hid (check_any c _ (hL.ext HN.out.be))
  clear hc hL
  go_enter Tryd.func56, Tryd.ntmps56
  go_wp2_with fail
  refine HC.out.mono ?_
  rintro e w1 ⟨rfl, hb⟩
  have HN1 := Lib.hid (HN.out.ext hb)
  obtain ⟨k0, k1, k2, k3, k4, k5, k6⟩ := cfg_at HN1.out.box
  have hl1 := lt_of HN1.out.box
  clear hb
  go_wp2_with fail
  go_ret2
  exact ⟨rfl, HN1.out.be⟩
set_option maxRecDepth 100000 in
theorem anew_len1 (hL : Lims w) (hc : c.ok) (e1 : ((l.length : Int) != c.co) = false) (e2 : ((ws.length : Int) != c.co) = true) :
    Calls Tryd.prog 56 #[.agg #[.int .i64 c.co, .int .i64 c.gr, .int .i64 c.se, .int .i64 c.wa, .int .i64 c.de, .int .i64 c.en, .int .i64 c.ba], .slice A l.length c1, .slice B ws.length c2, .slice C os.length c3, .slice D ds.length c4] w fun e w' => e = .returned (.tuple #[.pointer none, .int .i64 1]) ∧ Below w.heap.size w w' := by
  have hch := chk_ok hc
  have HL := Lib.hid hL
  have HN := Lib.hid (Nb.new w c)
  have HC := Lib.hid (check_any c _ (hL.ext HN.out.be))
  clear hc hL
  go_enter Tryd.func56, Tryd.ntmps56
  go_wp2_with fail
  refine HC.out.mono ?_
  rintro e w1 ⟨rfl, hb⟩
  have HN1 := Lib.hid (HN.out.ext hb)
  obtain ⟨k0, k1, k2, k3, k4, k5, k6⟩ := cfg_at HN1.out.box
  have hl1 := lt_of HN1.out.box
  clear hb
  go_wp2_with fail
  go_ret2
  exact ⟨rfl, HN1.out.be⟩
set_option maxRecDepth 100000 in
theorem anew_len2 (hL : Lims w) (hc : c.ok) (e1 : ((l.length : Int) != c.co) = false) (e2 : ((ws.length : Int) != c.co) = false) (e3 : ((os.length : Int) != c.gr) = true) :
    Calls Tryd.prog 56 #[.agg #[.int .i64 c.co, .int .i64 c.gr, .int .i64 c.se, .int .i64 c.wa, .int .i64 c.de, .int .i64 c.en, .int .i64 c.ba], .slice A l.length c1, .slice B ws.length c2, .slice C os.length c3, .slice D ds.length c4] w fun e w' => e = .returned (.tuple #[.pointer none, .int .i64 1]) ∧ Below w.heap.size w w' := by
  have hch := chk_ok hc
  have HL := Lib.hid hL
  have HN := Lib.hid (Nb.new w c)
  have HC := Lib.hid (check_any c _ (hL.ext HN.out.be))
  clear hc hL
  go_enter Tryd.func56, Tryd.ntmps56
  go_wp2_with fail
  refine HC.out.mono ?_
  rintro e w1 ⟨rfl, hb⟩
  have HN1 := Lib.hid (HN.out.ext hb)
  obtain ⟨k0, k1, k2, k3, k4, k5, k6⟩ := cfg_at HN1.out.box
  have hl1 := lt_of HN1.out.box
  clear hb
  go_wp2_with fail
  go_ret2
  exact ⟨rfl, HN1.out.be⟩
set_option maxRecDepth 100000 in
theorem anew_len3 (hL : Lims w) (hc : c.ok) (e1 : ((l.length : Int) != c.co) = false) (e2 : ((ws.length : Int) != c.co) = false) (e3 : ((os.length : Int) != c.gr) = false) (e4 : ((ds.length : Int) != lin c * 2) = true) :
    Calls Tryd.prog 56 #[.agg #[.int .i64 c.co, .int .i64 c.gr, .int .i64 c.se, .int .i64 c.wa, .int .i64 c.de, .int .i64 c.en, .int .i64 c.ba], .slice A l.length c1, .slice B ws.length c2, .slice C os.length c3, .slice D ds.length c4] w fun e w' => e = .returned (.tuple #[.pointer none, .int .i64 1]) ∧ Below w.heap.size w w' := by
  have hch := chk_ok hc
  have HL := Lib.hid hL
  have HN := Lib.hid (Nb.new w c)
  have HC := Lib.hid (check_any c _ (hL.ext HN.out.be))
  clear hc hL
  go_enter Tryd.func56, Tryd.ntmps56
  go_wp2_with fail
  refine HC.out.mono ?_
  rintro e w1 ⟨rfl, hb⟩
  have HN1 := Lib.hid (HN.out.ext hb)
  obtain ⟨k0, k1, k2, k3, k4, k5, k6⟩ := cfg_at HN1.out.box
  have hl1 := lt_of HN1.out.box
  clear hb
  go_wp2_with fail
  refine (words_any c _ (HL.out.ext HN1.out.be)).mono ?_
  rintro e w2 ⟨rfl, hb⟩
  have HN1 := Lib.hid (HN1.out.ext hb)
  clear hb
  go_wp2_with fail
  go_ret2
  exact ⟨rfl, HN1.out.be⟩
end
end Go.Proofs.YtkobeajbiendlaaDoor
namespace Go.Proofs.YtkobeajbiendlaaDoor
open Go.RowKit

theorem Ops.keep {w w' : World} (h : Ops w) (k : ∀ g, g < w.heap.size → w'.heap[g]? = w.heap[g]?) : Ops w' := by
  obtain ⟨t, fr, hh⟩ := h
  exact ⟨t, fr, (k _ (lt_of hh)).trans hh⟩
section
variable (c : Cfg) (A B C D : Option Addr) (l : List Pr) (ws os ds : List Int) (c1 c2 c3 c4 : Nat) (w : World)
theorem new_go {c : Cfg} {l : List Pr} {ws os ds : List Int} (hc : c.ok) (h1 : (l.length : Int) = c.co) (h2 : (ws.length : Int) = c.co) (h3 : (os.length : Int) = c.gr) (h4 : (ds.length : Int) = 4 * c.gr) :
    (badP l ≠ 0 → newE11 c l ws os ds = badP l) ∧ (badP l = 0 → (allIn 0 3 ws = false ∨ allIn 0 4 os = false) → newE11 c l ws os ds = 10) ∧ (badP l = 0 → allIn 0 3 ws = true → allIn 0 4 os = true → newE11 c l ws os ds = 0) := by
  unfold newE11
  rw [if_neg (by simpa using hc), if_neg (by omega)]
  refine ⟨fun h => by rw [if_pos h], fun h k => by rw [if_neg (by simpa using h), if_pos k], fun h k1 k2 => by rw [if_neg (by simpa using h), if_neg (by simp [k1, k2])]⟩
set_option maxRecDepth 100000 in
set_option maxHeartbeats 8000000 in
theorem anew_go (hL : Lims w) (hO : Ops w) (hc : c.ok) (h1 : (l.length : Int) = c.co) (h2 : (ws.length : Int) = c.co) (h3 : (os.length : Int) = c.gr) (h4 : (ds.length : Int) = 4 * c.gr) (hA : SlR w A l) (hB : SlI w B ws) (hC : SlI w C os) (hD : SlI w D ds) :
    Calls Tryd.prog 56 #[.agg #[.int .i64 c.co, .int .i64 c.gr, .int .i64 c.se, .int .i64 c.wa, .int .i64 c.de, .int .i64 c.en, .int .i64 c.ba], .slice A l.length c1, .slice B ws.length c2, .slice C os.length c3, .slice D ds.length c4] w fun e w' => NewPost c l ws os ds w e w' := by
  have HG := Lib.hid (new_go hc h1 h2 h3 h4)
  have e1 : ((l.length : Int) != c.co) = false := by simpa using h1
  have e2 : ((ws.length : Int) != c.co) = false := by simpa using h2
  have e3 : ((os.length : Int) != c.gr) = false := by simpa using h3
  have e4 : ((ds.length : Int) != lin c * 2) = false := by rw [lin_ok hc]; simp; omega
  have hch := chk_ok hc
  have HS := Lib.hid (And.intro h1 (And.intro h2 (And.intro h3 h4)))
  have HZ := Lib.hid (show (l.length ≤ 4 ∧ 1 ≤ l.length ∧ 1 ≤ os.length ∧ os.length ≤ 16 ∧ ds.length ≤ 64) from by
    obtain ⟨⟨k1, k2⟩, ⟨k3, k4⟩, _⟩ := hc
    omega)
  have HL := Lib.hid hL
  have HO := Lib.hid hO
  have HA := Lib.hid hA
  have HB := Lib.hid hB
  have HC := Lib.hid hC
  have HD := Lib.hid hD
  have HK := Lib.hid hc
  have HN := Lib.hid (Nb.new w c)
  have HCC := Lib.hid (check_any c _ (hL.ext HN.out.be))
  clear hc hL hO hA hB hC hD h1 h2 h3 h4
  go_enter Tryd.func56, Tryd.ntmps56
  go_wp2_with fail
  refine HCC.out.mono ?_
  rintro e w1 ⟨rfl, hb⟩
  have HN1 := Lib.hid (HN.out.ext hb)
  obtain ⟨k0, k1, k2, k3, k4, k5, k6⟩ := cfg_at HN1.out.box
  have hl1 := lt_of HN1.out.box
  clear hb
  go_wp2_with fail
  refine (words_any c _ (HL.out.ext HN1.out.be)).mono ?_
  rintro e w2 ⟨rfl, hb⟩
  have HN2 := Lib.hid (HN1.out.ext hb)
  clear hb k0 k1 k2 k3 k4 k5 k6 hl1 HN1
  go_wp2_with fail
  clear e1 e2 e3 e4
  go_loopg [58] l.length (fun g s58 wr => ∃ k : Nat, s58 = .int .i64 k ∧ k + g = l.length ∧ Hid (badP (l.take k) = 0) ∧ Hid (Nb w wr c))
  case atStart => exact ⟨0, rfl, by omega, Lib.hid rfl, HN2⟩
  case round =>
    obtain ⟨k, rfl, hk, HT, HR⟩ := hrel
    by_cases hlt : k < l.length
    · have ek : decide ((k : Int) < (l.length : Int)) = true := by simp; omega
      have ek2 : decide (k < l.length) = true := by simpa using hlt
      have HLT := Lib.hid hlt
      have HKK := Lib.hid hk
      obtain ⟨b, off, rfl, hbl, hcs⟩ := ((HA.out.ext HR.out.be).cells (by omega))
      have y0 := hcs k hlt
      have HIC := Lib.hid (icheck_any (atR l k).A (atR l k).ps (atR l k).c wr ((HA.out.ext HR.out.be).ins k hlt).1 (HO.out.ext HR.out.be))
      have HBT := Lib.hid (badP_take hlt HT.out)
      have hk4 : (k : Int) ≤ 4 := by have := HZ.out; omega
      have hll : (l.length : Int) ≤ 4 := by have := HZ.out; omega
      clear hcs hk hlt
      generalize hcp : chkP (atR l k).ps = cp at *
      clear hcp
      by_cases hz : cp.2 = 0
      · have ez : (cp.2 != 0) = false := by simpa using hz
        have HT2 := Lib.hid (show badP (l.take (k + 1)) = 0 from HBT.out.trans hz)
        clear hz
        go_wp2_with fail
        refine HIC.out.mono ?_
        rintro e w3 ⟨rfl, hb⟩
        have HN3 := Lib.hid (HR.out.ext hb)
        clear hb y0
        go_wp2_with fail
        go_roundg (l.length - (k + 1))
        case measure => have := HLT.out; have := HKK.out; omega
        case rel => exact ⟨k + 1, by go_num, by have := HLT.out; omega, HT2, HN3⟩
      · have ez : (cp.2 != 0) = true := by simpa using hz
        have HF := Lib.hid (show badP l = cp.2 from (badP_of (k := k + 1) (by rw [HBT.out]; exact hz)).trans HBT.out)
        have HF2 := Lib.hid (show newE11 c l ws os ds ≠ 0 ∧ newE11 c l ws os ds = cp.2 from by
          have := HG.out.1 (by rw [HF.out]; exact hz)
          rw [HF.out] at this
          exact ⟨by rw [this]; exact hz, this⟩)
        clear hz
        go_wp2_with fail
        refine HIC.out.mono ?_
        rintro e w3 ⟨rfl, hb⟩
        have HN3 := Lib.hid (HR.out.ext hb)
        clear hb y0
        go_wp2_with fail
        go_ret2
        exact ⟨.inr ⟨HF2.out.1, by rw [HF2.out.2]; rfl⟩, HN3.out.be⟩
    · have ek : decide ((k : Int) < (l.length : Int)) = false := by simp; omega
      have ek2 : decide (k < l.length) = false := by simpa using hlt
      have HBP := Lib.hid (show badP l = 0 by have := HT.out; rwa [List.take_of_length_le (by omega)] at this)
      clear hk hlt
      go_wp2_with fail
      refine (within_any 0 3 B ws c2 wr (HB.out.ext HR.out.be) (by have := HZ.out; have := HS.out; omega)).mono ?_
      rintro e w3 ⟨rfl, hw⟩
      subst hw
      cases ha3 : allIn 0 3 ws
      · have HF := Lib.hid (show newE11 c l ws os ds = 10 from HG.out.2.1 HBP.out (.inl ha3))
        clear ha3
        go_wp2_with fail
        go_ret2
        exact ⟨.inr ⟨by rw [HF.out]; decide, by rw [HF.out]; rfl⟩, HR.out.be⟩
      have HA3 := Lib.hid ha3
      clear ha3
      go_wp2_with fail
      refine (within_any 0 4 C os c3 w3 (HC.out.ext HR.out.be) (by have := HZ.out; omega)).mono ?_
      rintro e w4 ⟨rfl, hw⟩
      subst hw
      cases ha4 : allIn 0 4 os
      · have HF := Lib.hid (show newE11 c l ws os ds = 10 from HG.out.2.1 HBP.out (.inr ha4))
        clear ha4
        go_wp2_with fail
        go_ret2
        exact ⟨.inr ⟨by rw [HF.out]; decide, by rw [HF.out]; rfl⟩, HR.out.be⟩
      have HF := Lib.hid (show newE11 c l ws os ds = 0 from HG.out.2.2 HBP.out HA3.out ha4)
      clear ha4
      obtain ⟨k0, k1, k2, k3, k4, k5, k6⟩ := cfg_at HR.out.box
      have hl1 := lt_of HR.out.box
      go_wp2_with fail
      refine (bnew_ok c w4 (HL.out.ext HR.out.be) HK.out).mono ?_
      rintro e w5 ⟨pm, rfl, hm', hb⟩
      have HN5 := Lib.hid (HR.out.ext hb)
      have HM5 := Lib.hid hm'
      have HLM := Lib.hid (show w.heap.size < w4.heap.size + 1 by omega)
      have HHM := Lib.hid (show w5.heap.size = w5.heap.size from rfl)
      clear hm' hb k0 k1 k2 k3 k4 k5 k6 hl1
      generalize w4.heap.size + 1 = lm at *
      generalize hhm : w5.heap.size = hm at HM5
      have HHM := Lib.hid hhm
      clear hhm
      go_wp2_with fail
      go_loopg [89] ds.length (fun g s89 wr => ∃ k : Nat, s89 = .int .i64 k ∧ k + g = ds.length ∧ Hid (Nb w wr c ∧ Bm wr lm hm pm (mmNew c ds k)))
      case atStart => exact ⟨0, rfl, by omega, Lib.hid ⟨HN5.out, by rw [mmNew_zero]; exact HM5.out⟩⟩
      case round =>
        obtain ⟨k, rfl, hk, HQ⟩ := hrel
        by_cases hlt : k < ds.length
        · have ek : decide ((k : Int) < (ds.length : Int)) = true := by simp; omega
          have ek2 : decide (k < ds.length) = true := by simpa using hlt
          have HLT := Lib.hid hlt
          have HKK := Lib.hid hk
          obtain ⟨b, off, rfl, hbl, hcs⟩ := ((HD.out.ext HQ.out.1.be) (by omega))
          have y0 := hcs k hlt
          have hn := Mm.n_of (mmNew c ds k)
          have hn2 : 2 * ((mmNew c ds k).n : Int) = 4 * c.gr := by rw [hn]; show 2 * lin c = _; rw [lin_ok HK.out]; omega
          have HBS := Lib.hid (bset_ok HQ.out.2 (HL.out.ext HQ.out.1.be) k (by have := HS.out; omega) (ds[k]?.getD 0))
          rw [mmNew_next] at HBS
          have hk64 : (k : Int) ≤ 64 := by have := HZ.out; omega
          clear hcs hk hlt hn hn2
          generalize ds[k]?.getD 0 = y at *
          go_wp2_with fail
          refine HBS.out.mono ?_
          rintro e w6 ⟨rfl, hm', hr⟩
          have HQ6 := Lib.hid (And.intro (HQ.out.1.rg hr HLM.out) hm')
          clear hm' hr y0
          go_wp2_with fail
          go_roundg (ds.length - (k + 1))
          case measure => have := HLT.out; have := HKK.out; omega
          case rel => exact ⟨k + 1, by go_num, by have := HLT.out; omega, HQ6⟩
        · have ek : decide ((k : Int) < (ds.length : Int)) = false := by simp; omega
          have ek2 : decide (k < ds.length) = false := by simpa using hlt
          obtain rfl : k = ds.length := by omega
          clear hk hlt
          go_wp2_with fail
          have hmk := mk_seat l.length HZ.out.2.1 HZ.out.1
          rw [HS.out.1] at hmk
          have HCL := Lib.hid (fun (W : World) (hb : Below wr.heap.size wr W) => clone_int C os c3 W (HC.out.ext (ext_trans HQ.out.1.be hb)) HZ.out.2.2.1 (by have := HZ.out; omega))
          go_cut [22] from 102 to 111 (fun s22 wc => ∃ p qs qo co : Nat, s22 = .pointer (some ⟨p, 0, none⟩) ∧ Hid (Mk wc w.heap.size wc.heap.size p qs qo pm lm hm l.length co (fun _ => .slice none 0 0) (maNew c l ws os ds 0) ∧ Below w.heap.size w wc))
          case first =>
            have QQ := HQ.out.1.box
            have hl1 := lt_of QQ
            obtain ⟨k0, k1, k2, k3, k4, k5, k6⟩ := cfg_at QQ
            generalize hV : (tab (l.length * 8) (seatV (fun _ => Se.zero) fun _ => .slice none 0 0)).toArray = V at hmk
            have HV := Lib.hid hV
            clear hV
            go_region_held3 (fun w' => w'.cell? ⟨w.heap.size, 0, none⟩ = some (.int .i64 c.co) ∧ w'.cell? ⟨w.heap.size, 1, none⟩ = some (.int .i64 c.gr) ∧ w'.cell? ⟨w.heap.size, 2, none⟩ = some (.int .i64 c.se) ∧ w'.cell? ⟨w.heap.size, 3, none⟩ = some (.int .i64 c.wa) ∧ w'.cell? ⟨w.heap.size, 4, none⟩ = some (.int .i64 c.de) ∧ w'.cell? ⟨w.heap.size, 5, none⟩ = some (.int .i64 c.en) ∧ w'.cell? ⟨w.heap.size, 6, none⟩ = some (.int .i64 c.ba))
              (first | exact cfg_at QQ | exact cfg_at (alOld QQ) | exact cfg_at (alOld (alOld QQ)))
              (first
                | (go_at_call 65; have hq := HCL.out wr.drew (ext_drew (Below.refl _ wr)); refine hq.mono ?_; clear hq; rintro e w7 ⟨v, rfl, ho, hb⟩; obtain ⟨qo, co, rfl⟩ := form_pos ho HZ.out.2.2.1; have HO7 := Lib.hid ho; have HB7 := Lib.hid (ext_trans (ext_drew (Below.refl _ wr)) hb); have QQ := (HQ.out.1.ext HB7.out).box; clear ho hb)
                | (go_at_call 65; have hq := HCL.out (wr.alloc (.cells V 118)).drew (ext_drew (ext_alloc _ (Below.refl _ wr))); refine hq.mono ?_; clear hq; rintro e w7 ⟨v, rfl, ho, hb⟩; obtain ⟨qo, co, rfl⟩ := form_pos ho HZ.out.2.2.1; have HO7 := Lib.hid ho; have HX7 := Lib.hid ((hb.block wr.heap.size (by simp)).trans (show (wr.alloc (.cells V 118)).drew.heap[wr.heap.size]? = _ from alNew rfl)); have HB7 := Lib.hid (ext_trans (ext_drew (ext_alloc _ (Below.refl _ wr))) hb); have QQ := (HQ.out.1.ext HB7.out).box; clear ho hb))
            all_goals (try go_wp2_with fail)
            all_goals go_meet
            all_goals
              have z1 := HB7.out.size
              have z3 : qo < w7.heap.size := lt_own HO7.out rfl
              have z4 := HQ.out.2.sz
              have z5 := HQ.out.1.be.size
              have z6 := HL.out.lt
              have z7 := HLM.out
            all_goals first
              | (have z2 : wr.heap.size + 1 ≤ qo := by have := own_ge HO7.out rfl; simpa using this
                 exact ⟨_, _, _, _, rfl, Lib.hid ⟨mk_new HS.out.1 HS.out.2.2.1 HZ.out.1 (HQ.out.2.ext (ext_alloc _ HB7.out)) (by rw [HV.out]; exact alOld HX7.out) (row_mono (row_keep HO7.out (fun g hg => Below.heap_alloc _ _ _ (lt_own HO7.out hg))) (by simp; omega)) (alNew rfl) (by omega) (by omega) (by omega) (by omega) (by omega) (by omega) (by omega) (by omega), ext_alloc _ (ext_trans HQ.out.1.be HB7.out)⟩⟩)
              | (have z2 : wr.heap.size ≤ qo := own_ge HO7.out rfl
                 exact ⟨_, _, _, _, rfl, Lib.hid ⟨mk_new HS.out.1 HS.out.2.2.1 HZ.out.1 (HQ.out.2.ext (ext_alloc _ (ext_alloc _ HB7.out))) (by rw [HV.out]; exact alOld (alNew rfl)) (row_mono (row_keep HO7.out (fun g hg => (Below.heap_alloc _ _ _ (by have := lt_own HO7.out hg; simp; omega)).trans (Below.heap_alloc _ _ _ (lt_own HO7.out hg)))) (by simp; omega)) (alNew (by simp)) (by omega) (by omega) (by omega) (by omega) (by omega) (by omega) (by omega) (by omega), ext_alloc _ (ext_alloc _ (ext_trans HQ.out.1.be HB7.out))⟩⟩)
          case rest =>
            obtain ⟨p, qs, qo, co, rfl, HM⟩ := hcut
            obtain ⟨t0, t1, t2, t3, t4, t5, t6, t7, t8, t9⟩ := ten_at HM.out.1.top
            obtain ⟨hp, _, _⟩ := HM.out.1.lt
            have hnc : (maNew c l ws os ds 0).nc = l.length := by show c.co.toNat = _; have := HS.out.1; omega
            rw [hnc] at t7
            clear hnc hmk HCL
            go_wp2_with fail
            clear t0 t1 t2 t3 t4 t5 t6 t7 t8 t9 hp HQ HM5 HHM
            go_loopg [116] l.length (fun g s116 wr => ∃ (k : Nat) (P : Nat → Value), s116 = .int .i64 k ∧ k + g = l.length ∧ Hid (Mk wr w.heap.size wr.heap.size p qs qo pm lm hm l.length co P (maNew c l ws os ds k) ∧ Below w.heap.size w wr))
            case atStart => exact ⟨0, _, rfl, by omega, HM⟩
            case round =>
              obtain ⟨k, P, rfl, hk, HR⟩ := hrel
              have hnc : (maNew c l ws os ds k).nc = l.length := by show c.co.toNat = _; have := HS.out.1; omega
              have HNC := Lib.hid hnc
              by_cases hlt : k < l.length
              · have ek : decide ((k : Int) < (l.length : Int)) = true := by simp; omega
                have ek2 : decide (k < l.length) = true := by simpa using hlt
                have HLT := Lib.hid hlt
                have HKK := Lib.hid hk
                obtain ⟨t0, t1, t2, t3, t4, t5, t6, t7, t8, t9⟩ := ten_at HR.out.1.top
                rw [hnc] at t7
                obtain ⟨hp, _, _⟩ := HR.out.1.lt
                obtain ⟨b, off, hAA, hbl, hcs⟩ := ((HA.out.ext HR.out.2).cells (by omega))
                subst hAA
                have y0 := hcs k hlt
                have hpl := chk_len (badP_all HBP.out k hlt)
                have HPL := Lib.hid hpl
                have HIC := Lib.hid (iclone_any (atR l k).A (atR l k).ps (atR l k).c wr ((HA.out.ext HR.out.2).ins k hlt).1 ((HA.out.ext HR.out.2).ins k hlt).2 (by omega))
                have hk4 : (k : Int) ≤ 4 := by have := HZ.out; omega
                have hll : (l.length : Int) ≤ 4 := by have := HZ.out; omega
                have hkl : (k : Int) < (l.length : Int) := by omega
                clear hcs hk hlt hnc hpl
                generalize hps : (atR l k).ps.length = pn at *
                have HPN := Lib.hid hps
                clear hps
                go_wp2_with fail
                refine HIC.out.mono ?_
                rintro e w8 ⟨v', rfl, hP, hv, hb⟩
                have HP8 := Lib.hid hP
                have HV8 := Lib.hid hv
                have HB8 := Lib.hid hb
                have HM8 := Lib.hid ((HR.out.1.ext hb).grow hb.size (Nat.le_refl _))
                have HW8 := Lib.hid (HB.out.ext (ext_trans HR.out.2 hb))
                clear hP hv hb t0 t1 t2 t3 t4 t5 t6 t7 t8 t9 hp y0
                obtain ⟨b2, off2, hBB, hbl2, hcs⟩ := HB.out (by have := HS.out; have := HLT.out; omega)
                subst hBB
                have hbw := ext_trans HR.out.2 HB8.out
                have y1 := (hbw.cell (p := ⟨b2, off2 + k, none⟩) hbl2).trans (hcs k (by have := HS.out; have := HLT.out; omega))
                have hwl : (k : Int) < (ws.length : Int) := by have := HS.out; have := HLT.out; omega
                have hne : b2 ≠ qs := by have := HR.out.1.bd; omega
                have hbl3 := Nat.lt_of_lt_of_le hbl2 hbw.size
                obtain ⟨A', c', rfl, _, _⟩ := HP8.out
                obtain ⟨_, s5, _, s7, sf⟩ := HM8.out.sc k (by rw [HNC.out]; exact HLT.out)
                have hqs := HM8.out.lt.2.1
                generalize hwo : ws[k]?.getD 0 = wo at y1
                have HM9 := Lib.hid ((HM8.out.prog_set k _ _ HP8.out (fun g hg => by
                  have h1 := HV8.out g hg
                  have h2 := HR.out.1.lt
                  have h3 := HR.out.1.bd
                  have h4 := HR.out.2.size
                  omega)).wo_set k wo)
                have HNX := Lib.hid (maNew_next c l ws os ds k)
                rw [hwo] at HNX
                have HB9 := Lib.hid hbw
                clear hbw hcs hbl2
                rw [HPN.out] at HM9 ⊢
                go_wp2_with fail
                refine (aturn HM9.out k (by show k < (maNew c l ws os ds k).nc; rw [HNC.out]; exact HLT.out) 0 (Int.le_refl _) (by
                  show (updN (updN (maNew c l ws os ds k).se k _) k _ k).ps.length ≤ 1000
                  rw [updN_same]
                  show (updN (maNew c l ws os ds k).se k _ k).ps.length ≤ 1000
                  rw [updN_same]
                  show (atR l k).ps.length ≤ 1000
                  have := HPN.out
                  have := HPL.out
                  omega)).mono ?_
                rintro e w10 ⟨⟨r, rfl⟩, hm10, hr10⟩
                rw [HNX.out] at hm10
                have HM10 := Lib.hid (And.intro (hm10.grow (by have := hr10.size; simpa using this) (Nat.le_refl _)) (hr10.below (Below.setCell (Below.setCell HB9.out (by have := HR.out.1.bd; exact this.2.2.1) _) (by have := HR.out.1.bd; exact this.2.2.1) _) (Nat.le_refl _)))
                clear hm10 hr10 y1 s5 s7 sf hqs hbl3
                go_wp2_with fail
                go_roundg (l.length - (k + 1))
                case measure => have := HLT.out; have := HKK.out; omega
                case rel => exact ⟨k + 1, _, by go_num, by have := HLT.out; omega, HM10⟩
              · have ek : decide ((k : Int) < (l.length : Int)) = false := by simp; omega
                have ek2 : decide (k < l.length) = false := by simpa using hlt
                obtain rfl : k = l.length := by omega
                obtain ⟨hp, _, _⟩ := HR.out.1.lt
                clear hk hlt
                go_wp2_with fail
                go_ret2
                exact ⟨.inl ⟨HF.out, _, rfl, ⟨_, _, _, _, _, _, _, _, HR.out.1⟩⟩, HR.out.2⟩
end
end Go.Proofs.YtkobeajbiendlaaDoor
