/- What this text holds: a world as the document's machine. No condition. -/
import Derived.Test.YtkobeajbiendlaaDoorRf11
import Derived.Test.YtkobeajbiendlaaDoorFw11
import Derived.Test.YtkobeajbiendlaaDoorAtmT
import Derived.Test.YtkobeajbiendlaaDoorRef10B
import Derived.Deep.RegionLaw
import Derived.Deep.RegionWith
import Derived.Deep.CutRange
namespace Go.Proofs.YtkobeajbiendlaaDoor
open Go.RowKit

theorem info_core11 : (Tryd.prog.info? 126).map (fun i => (i.zero, i.size, i.bytes)) = some (some (.agg #[.slice none 0 0, .int .i64 0, .int .i64 0, .int .i64 0, .int .i64 0, .int .i64 0, .int .i64 0]), 7, 72) := by kernel_rfl
theorem info_intG : (Tryd.prog.info? 3).map (fun i => (i.zero, i.size, i.bytes)) = some (some (.int .i64 0), 1, 8) := by kernel_rfl
theorem newE11_len {c : Cfg} {l : List Pr} {ws os ds : List Int} (h : newE11 c l ws os ds = 0) : c.ok ∧ (l.length : Int) = c.co ∧ (ws.length : Int) = c.co ∧ (os.length : Int) = c.gr ∧ (ds.length : Int) = 4 * c.gr := by
  unfold newE11 at h
  split at h
  · cases h
  rename_i hc
  split at h
  · cases h
  rename_i hl
  have hc := Classical.not_not.1 hc
  refine ⟨hc, ?_⟩
  omega
/-- The cells of a core that is new. -/
def oneC (v : Value) (wo : Int) : List Value := [v, .int .i64 0, .int .i64 0, .int .i64 0, .int .i64 0, .int .i64 0, .int .i64 wo]
theorem core_next (l : List Pr) (ws : List Int) (P : Nat → Value) (k : Nat) (hk : k < l.length) (v : Value) : tab ((k + 1) * 7) (coreV (seNew l ws l.length) (updN P k v)) = tab (k * 7) (coreV (seNew l ws l.length) P) ++ oneC v (ws[k]?.getD 0) := by
  have hs : seNew l ws l.length k = seOne (atR l k) (ws[k]?.getD 0) := by unfold seNew; rw [if_pos hk]
  apply List.ext_getElem?
  intro i
  by_cases hi : i < k * 7
  · rw [tab_at _ (by omega), List.getElem?_append_left (by simpa using hi), tab_at _ hi]
    unfold coreV
    rw [updN_ne _ _ (by omega)]
  · rw [List.getElem?_append_right (by simpa using hi), tab_len]
    by_cases hi2 : i < (k + 1) * 7
    · rw [tab_at _ hi2]
      have e : i = k * 7 ∨ i = k * 7 + (0 + 1) ∨ i = k * 7 + (1 + 1) ∨ i = k * 7 + (2 + 1) ∨ i = k * 7 + (3 + 1) ∨ i = k * 7 + 5 ∨ i = k * 7 + 6 := by omega
      rcases e with e | e | e | e | e | e | e <;> subst e
      · rw [coreV_0, updN_same, Nat.sub_self]; rfl
      · rw [coreV_r _ _ _ 0 (by omega), hs, Nat.add_sub_cancel_left]; rfl
      · rw [coreV_r _ _ _ 1 (by omega), hs, Nat.add_sub_cancel_left]; rfl
      · rw [coreV_r _ _ _ 2 (by omega), hs, Nat.add_sub_cancel_left]; rfl
      · rw [coreV_r _ _ _ 3 (by omega), hs, Nat.add_sub_cancel_left]; rfl
      · rw [coreV_5, hs, Nat.add_sub_cancel_left]; rfl
      · rw [coreV_6, hs, Nat.add_sub_cancel_left]; rfl
    · rw [List.getElem?_eq_none (by simpa using hi2), List.getElem?_eq_none (by simp [oneC]; omega)]

/-- How far it has come: k cores are laid. -/
structure Pk (w wr : World) (q k : Nat) (c : Cfg) (A B C D : Option Addr) (l : List Pr) (ws os ds : List Int) (c1 c2 c3 c4 : Nat) (A2 : Option Addr) (c5 : Nat) (P : Nat → Value) : Prop where
  wb : Wb w wr w.heap.size c A B C D l ws os ds c1 c2 c3 c4
  top : wr.heap[q]? = some (.cells #[.slice A2 k c5, .slice none 0 0, .slice none 0 0] 124 (0, 0))
  st : wr.ownsRow (q + 1) 126 7 (.slice A2 k c5) k (tab (k * 7) (coreV (seNew l ws l.length) P))
  pg : ∀ i, i < k → Pg wr (P i) (atR l i).ps ∧ ∀ b, (P i).ownBlock = some b → q + 1 ≤ b ∧ b < wr.heap.size ∧ (Value.slice A2 k c5).ownBlock ≠ some b
  hq : q = w.heap.size + 1
section
variable {w wr w2 w3 w4 : World} {q k : Nat} {c : Cfg} {A B C D : Option Addr} {l : List Pr} {ws os ds : List Int} {c1 c2 c3 c4 : Nat} {A2 A4 : Option Addr} {c5 c6 : Nat} {P : Nat → Value} {v : Value}
theorem Pk.next (h : Pk w wr q k c A B C D l ws os ds c1 c2 c3 c4 A2 c5 P) (hk : k < l.length) (hb : Below wr.heap.size wr w2) (hv : Pg w2 v (atR l k).ps) (hvb : ∀ b, v.ownBlock = some b → wr.heap.size ≤ b ∧ b < w2.heap.size) (hb3 : Below w2.heap.size w2 w3)
    (ho : w4.ownsRow (q + 1) 126 7 (.slice A4 (k + 1) c6) (k + 1) (tab (k * 7) (coreV (seNew l ws l.length) P) ++ oneC v (ws[k]?.getD 0))) (hg : w3.grownBy w4 (Value.slice A2 k c5).ownBlock)
    (hf : ∀ g, (Value.slice A4 (k + 1) c6).ownBlock = some g → (Value.slice A2 k c5).ownBlock = some g ∨ w3.heap.size ≤ g) : Pk w (w4.setCell ⟨q, 0, none⟩ (.slice A4 (k + 1) c6)) q (k + 1) c A B C D l ws os ds c1 c2 c3 c4 A4 c6 (updN P k v) := by
  have hq := h.hq
  have hql := lt_of h.top
  have hbl := lt_of h.wb.box
  have hs := hb.size
  have hs3 := hb3.size
  have hs4 := hg.size
  have hold : ∀ g, (Value.slice A2 k c5).ownBlock = some g → q + 1 ≤ g ∧ g < wr.heap.size := fun g e => ⟨own_ge h.st e, (h.st.lt g e).2⟩
  have hB3 : Below wr.heap.size wr w3 := ext_trans hb hb3
  have keep : ∀ b, b < wr.heap.size → (Value.slice A2 k c5).ownBlock ≠ some b → w4.heap[b]? = wr.heap[b]? := fun b h1 h2 => (hg.block b (by omega) (fun e => h2 e.symm)).trans (hB3.block b h1)
  have keep2 : ∀ b, wr.heap.size ≤ b → b < w2.heap.size → w4.heap[b]? = w2.heap[b]? := fun b h1 h2 => (hg.block b (by omega) (fun e => by have := hold b e.symm; omega)).trans (hb3.block b h2)
  have hqo : (Value.slice A2 k c5).ownBlock ≠ some q := fun e => by have := hold q e; omega
  have hwo : (Value.slice A2 k c5).ownBlock ≠ some w.heap.size := fun e => by have := hold _ e; omega
  have oth : ∀ b, b ≠ q → (w4.setCell ⟨q, 0, none⟩ (.slice A4 (k + 1) c6)).heap[b]? = w4.heap[b]? := fun b hb => Below.heap_setCell _ _ _ _ hb
  refine ⟨⟨?_, ?_⟩, ?_, ?_, ?_, hq⟩
  · refine Below.setCell (p := ⟨q, 0, none⟩) ?_ (by simp; omega) _
    exact (ext_trans h.wb.be hB3).grown hg (ext_trans h.wb.be hB3).size (fun g e => by have := hold g e; omega)
  · exact (oth _ (by omega)).trans ((keep _ hbl hwo).trans h.wb.box)
  · have := Joins.block_setCell (i := 0) ((keep q hql hqo).trans h.top) (.slice A4 (k + 1) c6)
    simpa using this
  · rw [core_next l ws P k hk v]
    refine row_keep ho (fun g e => oth g (fun e2 => ?_))
    have := own_ge ho e
    omega
  · intro i hi
    by_cases hik : i = k
    · subst hik
      rw [updN_same]
      refine ⟨hv.keep (fun g e => ?_), fun b e => ?_⟩
      · have := hvb g e
        exact (oth g (by omega)).trans (keep2 g this.1 this.2)
      · have h1 := hvb b e
        refine ⟨by omega, by simp; omega, fun e2 => ?_⟩
        rcases hf b e2 with h2 | h2
        · have := hold b h2; omega
        · omega
    · rw [updN_ne _ _ hik]
      obtain ⟨p1, p2⟩ := h.pg i (by omega)
      refine ⟨p1.keep (fun g e => ?_), fun b e => ?_⟩
      · have := p2 g e
        exact (oth g (by omega)).trans (keep g this.2.1 this.2.2)
      · have h1 := p2 b e
        refine ⟨h1.1, by simp; omega, fun e2 => ?_⟩
        rcases hf b e2 with h2 | h2
        · exact h1.2.2 h2
        · omega
end

set_option maxRecDepth 100000 in
theorem plain10_nil (A : Option Addr) (cap : Nat) (w : World) : Calls Tryd.prog 54 #[.slice A 0 cap] w fun e w' => e = .returned (.slice none 0 0) ∧ Below w.heap.size w w' := by
  go_enter Tryd.func54, Tryd.ntmps54
  go_wp2_with fail
  refine wp_loop_rounds 1 ?_
  rw [rounds_succ]
  go_wp2_with fail
  go_ret
  exact ⟨rfl, Below.refl _ _⟩
theorem plain10_b (A : Option Addr) (l : List Ins) (cap : Nat) (w : World) (h : SlN w A l) (hn : l.length ≤ 1000) : Calls Tryd.prog 54 #[.slice A l.length cap] w fun e w' =>
    ∃ v, e = .returned v ∧ Pg w' v l ∧ (∀ b, v.ownBlock = some b → w.heap.size ≤ b ∧ b < w'.heap.size) ∧ Below w.heap.size w w' := by
  by_cases h0 : l.length = 0
  · have hl : l = [] := List.eq_nil_of_length_eq_zero h0
    subst hl
    refine (plain10_nil A cap w).mono ?_
    rintro e w' ⟨rfl, hb⟩
    exact ⟨_, rfl, ⟨none, 0, rfl, fun h => absurd h (by simp), fun _ => ⟨rfl, rfl⟩⟩, fun b e => (by cases e), hb⟩
  · refine (plain10 A l cap w h hn).mono ?_
    rintro e w' ⟨A', c', rfl, hs, hg, hz, hb⟩
    refine ⟨_, rfl, ⟨A', c', rfl, hs, hz⟩, fun b e => ?_, hb⟩
    obtain ⟨b2, off, rfl, hlt, _⟩ := hs (by omega)
    have hbb : b2 = b := Option.some.inj e
    have := hg _ rfl
    subst hbb
    exact ⟨this, hlt⟩

/-- The owners are laid, too. -/
structure P6 (w wr : World) (q : Nat) (c : Cfg) (A B C D : Option Addr) (l : List Pr) (ws os ds : List Int) (c1 c2 c3 c4 : Nat) (A2 : Option Addr) (c5 : Nat) (P : Nat → Value) (A3 : Option Addr) (c6 : Nat) : Prop where
  wb : Wb w wr w.heap.size c A B C D l ws os ds c1 c2 c3 c4
  top : wr.heap[q]? = some (.cells #[.slice A2 l.length c5, .slice A3 os.length c6, .slice none 0 0] 124 (0, 0))
  st : wr.ownsRow (q + 1) 126 7 (.slice A2 l.length c5) l.length (tab (l.length * 7) (coreV (seNew l ws l.length) P))
  ow : wr.ownsRow (q + 1) 3 1 (.slice A3 os.length c6) os.length (os.map (Value.int .i64))
  pg : ∀ i, i < l.length → Pg wr (P i) (atR l i).ps ∧ ∀ b, (P i).ownBlock = some b → q + 1 ≤ b ∧ b < wr.heap.size ∧ (Value.slice A2 l.length c5).ownBlock ≠ some b ∧ (Value.slice A3 os.length c6).ownBlock ≠ some b
  ne : ∀ g, (Value.slice A3 os.length c6).ownBlock = some g → (Value.slice A2 l.length c5).ownBlock ≠ some g
  hq : q = w.heap.size + 1
section
variable {w wr w2 : World} {q : Nat} {c : Cfg} {A B C D : Option Addr} {l : List Pr} {ws os ds : List Int} {c1 c2 c3 c4 : Nat} {A2 A3 A4 : Option Addr} {c5 c6 c7 : Nat} {P : Nat → Value}
theorem Pk.owners (h : Pk w wr q l.length c A B C D l ws os ds c1 c2 c3 c4 A2 c5 P) (hg : wr.grownBy w2 none) (ho : w2.ownsRow (q + 1) 3 1 (.slice A3 os.length c6) os.length (os.map (Value.int .i64))) (hf : ∀ g, (Value.slice A3 os.length c6).ownBlock = some g → wr.heap.size ≤ g) :
    P6 w (w2.setCell ⟨q, 1, none⟩ (.slice A3 os.length c6)) q c A B C D l ws os ds c1 c2 c3 c4 A2 c5 P A3 c6 := by
  have hq := h.hq
  have hql := lt_of h.top
  have hbl := lt_of h.wb.box
  have hs := hg.size
  have keep : ∀ b, b < wr.heap.size → w2.heap[b]? = wr.heap[b]? := fun b h1 => hg.block b h1 (fun e => by cases e)
  have oth : ∀ b, b ≠ q → (w2.setCell ⟨q, 1, none⟩ (.slice A3 os.length c6)).heap[b]? = w2.heap[b]? := fun b hb => Below.heap_setCell _ _ _ _ hb
  have hold : ∀ g, (Value.slice A2 l.length c5).ownBlock = some g → q + 1 ≤ g ∧ g < wr.heap.size := fun g e => ⟨own_ge h.st e, (h.st.lt g e).2⟩
  refine ⟨⟨?_, (oth _ (by omega)).trans ((keep _ hbl).trans h.wb.box)⟩, ?_, ?_, ?_, fun i hi => ?_, fun g e e2 => ?_, hq⟩
  · exact (h.wb.be.grown hg h.wb.be.size (fun g e => by cases e)).setCell (p := ⟨q, 1, none⟩) (by simp; omega) _
  · have := Joins.block_setCell (i := 1) ((keep q hql).trans h.top) (.slice A3 os.length c6)
    simpa using this
  · exact row_keep h.st (fun g e => by have := hold g e; exact (oth g (by omega)).trans (keep g this.2))
  · exact row_keep ho (fun g e => oth g (by have := hf g e; omega))
  · obtain ⟨p1, p2⟩ := h.pg i hi
    refine ⟨p1.keep (fun g e => ?_), fun b e => ?_⟩
    · have := p2 g e
      exact (oth g (by omega)).trans (keep g this.2.1)
    · have h1 := p2 b e
      exact ⟨h1.1, by simp; omega, h1.2.2, fun e2 => by have := hf b e2; omega⟩
  · have h1 := hf g e
    have := hold g e2
    omega
theorem row_some {W : World} {base e size n c : Nat} {A : Option Addr} {xs : List Value} (h : W.ownsRow base e size (.slice A n c) n xs) (hn : 0 < n) : ∃ b, A = some ⟨b, 0, none⟩ := by
  rcases h.2 with ⟨_, h0⟩ | ⟨g, cap, cur, hv, _⟩
  · omega
  · exact ⟨g, (Value.slice.inj hv).1⟩
theorem P6.words (h : P6 w wr q c A B C D l ws os ds c1 c2 c3 c4 A2 c5 P A3 c6) (hg : wr.grownBy w2 none) (ho : w2.ownsRow (q + 1) 3 1 (.slice A4 ds.length c7) ds.length (ds.map (Value.int .i64))) (hf : ∀ g, (Value.slice A4 ds.length c7).ownBlock = some g → wr.heap.size ≤ g) (hne : newE11 c l ws os ds = 0) :
    ∃ bL bO bW, Dk (w2.setCell ⟨q, 2, none⟩ (.slice A4 ds.length c7)) q (w2.setCell ⟨q, 2, none⟩ (.slice A4 ds.length c7)).heap.size q bL bO bW c5 c6 c7 P (maNew c l ws os ds l.length) ∧ Below w.heap.size w (w2.setCell ⟨q, 2, none⟩ (.slice A4 ds.length c7)) := by
  obtain ⟨hok, hl1, hl2, hl3, hl4⟩ := newE11_len hne
  have hgd : (maNew c l ws os ds l.length).Good := Ma.Good.new hne
  have hn := Ma.n_of hgd.1
  have e1 : (maNew c l ws os ds l.length).nc = l.length := by have h1 := hn.1; have h2 : (maNew c l ws os ds l.length).m.c.co = c.co := rfl; omega
  have e2 : (maNew c l ws os ds l.length).ng = os.length := by have h1 := hn.2.2.2.1; have h2 : (maNew c l ws os ds l.length).m.c.gr = c.gr := rfl; omega
  have e3 : 2 * (maNew c l ws os ds l.length).m.n = ds.length := by omega
  have hq := h.hq
  have hql := lt_of h.top
  have hbl := lt_of h.wb.box
  have hs := hg.size
  have keep : ∀ b, b < wr.heap.size → w2.heap[b]? = wr.heap[b]? := fun b h1 => hg.block b h1 (fun e => by cases e)
  have oth : ∀ b, b ≠ q → (w2.setCell ⟨q, 2, none⟩ (.slice A4 ds.length c7)).heap[b]? = w2.heap[b]? := fun b hb => Below.heap_setCell _ _ _ _ hb
  obtain ⟨bL, rfl⟩ := row_some h.st (by omega)
  obtain ⟨bO, rfl⟩ := row_some h.ow (by omega)
  obtain ⟨bW, rfl⟩ := row_some ho (by omega)
  have l1 : q + 1 ≤ bL := own_ge h.st rfl
  have l2 : bL < wr.heap.size := (h.st.lt bL rfl).2
  have m1 : q + 1 ≤ bO := own_ge h.ow rfl
  have m2 : bO < wr.heap.size := (h.ow.lt bO rfl).2
  have n1 : wr.heap.size ≤ bW := hf bW rfl
  have n2 : bW < w2.heap.size := (ho.lt bW rfl).2
  have hLO : bL ≠ bO := fun e => h.ne bO rfl (by rw [e]; rfl)
  have hsz : (w2.setCell ⟨q, 2, none⟩ (.slice (some ⟨bW, 0, none⟩) ds.length c7)).heap.size = w2.heap.size := by simp
  have eo : os.map (Value.int .i64) = tab os.length (intV (maNew c l ws os ds l.length).ow) := by
    apply List.ext_getElem?
    intro i
    by_cases hi : i < os.length
    · rw [tab_at _ hi, List.getElem?_map, List.getElem?_eq_getElem hi]
      show _ = some (Value.int .i64 (os[i]?.getD 0))
      rw [List.getElem?_eq_getElem hi]
      rfl
    · rw [List.getElem?_eq_none (by simpa using hi), List.getElem?_eq_none (by simpa using hi)]
  have ew : ds.map (Value.int .i64) = tab ds.length (intV (maNew c l ws os ds l.length).m.wd) := by
    apply List.ext_getElem?
    intro i
    by_cases hi : i < ds.length
    · rw [tab_at _ hi, List.getElem?_map, List.getElem?_eq_getElem hi]
      show _ = some (Value.int .i64 (wdNew ds ds.length i))
      unfold wdNew
      rw [if_pos hi, List.getElem?_eq_getElem hi]
      rfl
    · rw [List.getElem?_eq_none (by simpa using hi), List.getElem?_eq_none (by simpa using hi)]
  refine ⟨bL, bO, bW, ⟨?_, ?_, ?_, ?_, fun i hi => ?_, ?_, ?_, Nat.le_refl _⟩, ?_⟩
  · rw [e1, e2, e3]
    have := Joins.block_setCell (i := 2) ((keep q hql).trans h.top) (.slice (some ⟨bW, 0, none⟩) ds.length c7)
    simpa using this
  · rw [e1]
    exact row_mono (row_keep h.st (fun g e => by obtain rfl := Option.some.inj e; exact (oth bL (by omega)).trans (keep bL l2))) (Nat.le_succ _)
  · rw [e2, ← eo]
    exact row_mono (row_keep h.ow (fun g e => by obtain rfl := Option.some.inj e; exact (oth bO (by omega)).trans (keep bO m2))) (Nat.le_succ _)
  · rw [e3, ← ew]
    exact row_mono (row_keep ho (fun g e => by obtain rfl := Option.some.inj e; exact oth bW (by omega))) (Nat.le_succ _)
  · rw [e1] at hi
    obtain ⟨p1, p2⟩ := h.pg i hi
    have ep : ((maNew c l ws os ds l.length).se i).ps = (atR l i).ps := by
      show (seNew l ws l.length i).ps = _
      unfold seNew
      rw [if_pos hi]
      rfl
    rw [ep]
    refine ⟨p1.keep (fun g e => ?_), fun b e => ?_⟩
    · have := p2 g e
      exact (oth g (by omega)).trans (keep g this.2.1)
    · obtain ⟨h1, h2, h3, h4⟩ := p2 b e
      refine ⟨by omega, by rw [hsz]; omega, fun e3 => h3 (by rw [e3]; rfl), fun e3 => h4 (by rw [e3]; rfl), by omega, by omega⟩
  · rw [hsz]
    omega
  · omega
  · exact (h.wb.be.grown hg h.wb.be.size (fun g e => by cases e)).setCell (p := ⟨q, 2, none⟩) (by simp; omega) _
end
set_option maxRecDepth 100000 in
set_option maxHeartbeats 8000000 in
theorem dplain_any (c : Cfg) (A B C D : Option Addr) (l : List Pr) (ws os ds : List Int) (c1 c2 c3 c4 : Nat) (w : World) (hA : SlR w A l) (hB : SlI w B ws) (hC : SlI w C os) (hD : SlI w D ds) (hg : ∀ i, i < l.length → (atR l i).ps.length ≤ 1000) (hne : newE11 c l ws os ds = 0) :
    Calls Tryd.prog 36 #[.agg #[.int .i64 c.co, .int .i64 c.gr, .int .i64 c.se, .int .i64 c.wa, .int .i64 c.de, .int .i64 c.en, .int .i64 c.ba, .slice A l.length c1, .slice B ws.length c2, .slice C os.length c3, .slice D ds.length c4]] w fun e w' => ∃ lo q bL bO bW cl co cw P, e = .returned (.pointer (some ⟨q, 0, none⟩)) ∧ Dk w' lo w'.heap.size q bL bO bW cl co cw P (maNew c l ws os ds l.length) ∧ w.heap.size ≤ lo ∧ Below w.heap.size w w' := by
  obtain ⟨hok, hl1, hl2, hl3, hl4⟩ := newE11_len hne
  obtain ⟨⟨o1, o2⟩, ⟨o3, o4⟩, _⟩ := hok
  have HLEN := Lib.hid (show l.length ≤ 4 ∧ 1 ≤ l.length ∧ ws.length = l.length ∧ 1 ≤ os.length ∧ os.length ≤ 16 ∧ ds.length = 4 * os.length ∧ (l.length : Int) = c.co ∧ (os.length : Int) = c.gr by omega)
  have hl4' : (l.length : Int) ≤ 4 := by omega
  have HA := Lib.hid hA
  have HB := Lib.hid hB
  have HC := Lib.hid hC
  have HD := Lib.hid hD
  have HG := Lib.hid hg
  obtain ⟨i0, hi, hz0, hz1, hz2⟩ := info_parts info_core11
  obtain ⟨i1, hj, hy0, hy1, hy2⟩ := info_parts info_intG
  have HN := Lib.hid (Wb.new (c := c) (A := A) (B := B) (C := C) (D := D) (l := l) (ws := ws) (os := os) (ds := ds) (c1 := c1) (c2 := c2) (c3 := c3) (c4 := c4) (w := w))
  have HNE := Lib.hid hne
  have HCN := Lib.hid (show C = none → os.length = 0 ∧ c3 = 0 from fun e => by obtain ⟨b, off, h, _⟩ := hC (by omega); rw [e] at h; cases h)
  have HDN := Lib.hid (show D = none → ds.length = 0 ∧ c4 = 0 from fun e => by obtain ⟨b, off, h, _⟩ := hD (by omega); rw [e] at h; cases h)
  clear hA hB hC hD hg hne hl1 hl2 hl3 hl4 o1 o2 o3 o4
  go_enter Tryd.func36, Tryd.ntmps36
  go_wp2_with fail
  obtain ⟨q, hq⟩ : ∃ q, q = w.heap.size + 1 := ⟨_, rfl⟩
  have hP0 : Pk w ((w.alloc (.cells #[.int .i64 c.co, .int .i64 c.gr, .int .i64 c.se, .int .i64 c.wa, .int .i64 c.de, .int .i64 c.en, .int .i64 c.ba, .slice A l.length c1, .slice B ws.length c2, .slice C os.length c3, .slice D ds.length c4] 69)).alloc (.cells #[.slice none 0 0, .slice none 0 0, .slice none 0 0] 124)) q 0 c A B C D l ws os ds c1 c2 c3 c4 none 0 (fun _ => .nilFunc) :=
    ⟨HN.out.ext (ext_alloc _ (Below.refl _ _)), alNew (by rw [hq]; simp), World.ownsRow_nil _ _ _ _, fun i hi => absurd hi (by omega), hq⟩
  have HP0 := Lib.hid hP0
  have HQ := Lib.hid hq
  rw [← hq]
  clear hP0 hq
  go_loopg [4] l.length (fun g s4 wr => ∃ k : Nat, s4 = .int .i64 k ∧ k + g = l.length ∧ Hid (∃ A2 c5 P, Pk w wr q k c A B C D l ws os ds c1 c2 c3 c4 A2 c5 P))
  case atStart => exact ⟨0, rfl, by omega, Lib.hid ⟨_, _, _, HP0.out⟩⟩
  case round =>
    obtain ⟨k, rfl, hk, HK0⟩ := hrel
    obtain ⟨A2, c5, P, hK⟩ := HK0.out
    have HK := Lib.hid hK
    obtain ⟨t0, t1, t2, t3, t4, t5, t6, t7, t8, t9, t10⟩ := eleven_at hK.wb.box
    have tl := lt_of hK.wb.box
    have q0 : wr.cell? ⟨q, 0, none⟩ = some (.slice A2 k c5) := by simp [World.cell?, hK.top]
    have q1 : wr.cell? ⟨q, 1, none⟩ = some (.slice none 0 0) := by simp [World.cell?, hK.top]
    have q2 : wr.cell? ⟨q, 2, none⟩ = some (.slice none 0 0) := by simp [World.cell?, hK.top]
    have qf : ∀ o, wr.frozen? ⟨q, o, none⟩ = false := fun o => by simp [World.frozen?, hK.top]
    have ql := lt_of hK.top
    clear hK HK0
    by_cases hlt : k < l.length
    · have ek : decide ((k : Int) < (l.length : Int)) = true := by simp; omega
      have ek2 : decide (k < l.length) = true := by simpa using hlt
      have hkl : (k : Int) < (l.length : Int) := by omega
      have hk4 : (k : Int) ≤ 4 := by omega
      obtain ⟨bA, oA, hAA, hbA, hcA⟩ := HA.out.cells (by omega)
      obtain ⟨bB, oB, hBB, hbB, hcB⟩ := HB.out (by have := HLEN.out; omega)
      have hwl : (k : Int) < (ws.length : Int) := by have := HLEN.out; omega
      have yA := (HK.out.wb.be.cell (p := ⟨bA, oA + k, none⟩) hbA).trans (hcA k hlt)
      have yB := (HK.out.wb.be.cell (p := ⟨bB, oB + k, none⟩) hbB).trans (hcB k (by omega))
      have lA := Nat.lt_of_lt_of_le hbA HK.out.wb.be.size
      have lB := Nat.lt_of_lt_of_le hbB HK.out.wb.be.size
      have hpi := (HA.out.ext HK.out.wb.be).ins k hlt
      have hg1 := HG.out k hlt
      obtain ⟨wo, hwo⟩ : ∃ v, v = ws[k]?.getD 0 := ⟨_, rfl⟩
      rw [← hwo] at yB
      obtain ⟨pr, hpr⟩ : ∃ x, x = atR l k := ⟨_, rfl⟩
      rw [← hpr] at yA hpi hg1
      have HPL := Lib.hid (fun (V : World) (hb : Below wr.heap.size wr V) => plain10_b pr.A pr.ps pr.c V (hpi.1.ext hb) hg1)
      have HPR := Lib.hid (And.intro hpr hwo)
      have HLT := Lib.hid (And.intro hk hlt)
      have HQK := Lib.hid (fun (V : World) (hb : ∀ b, b < q → b < wr.heap.size → V.heap[b]? = wr.heap[b]?) => show V.cell? ⟨w.heap.size, 8, none⟩ = some (.slice B ws.length c2) ∧ V.cell? ⟨w.heap.size, 7, none⟩ = some (.slice A l.length c1) ∧ V.cell? ⟨bA, oA + k, none⟩ = some (.slice pr.A pr.ps.length pr.c) ∧ V.cell? ⟨bB, oB + k, none⟩ = some (.int .i64 wo) from
        ⟨(World.cell?_of_block (a := ⟨w.heap.size, 8, none⟩) (hb w.heap.size (by have := HQ.out; omega) tl)).trans t8, (World.cell?_of_block (a := ⟨w.heap.size, 7, none⟩) (hb w.heap.size (by have := HQ.out; omega) tl)).trans t7, (World.cell?_of_block (a := ⟨bA, oA + k, none⟩) (hb bA (by have := HQ.out; omega) lA)).trans yA, (World.cell?_of_block (a := ⟨bB, oB + k, none⟩) (hb bB (by have := HQ.out; omega) lB)).trans yB⟩)
      have HQH := Lib.hid (fun (V : World) (hb : Below wr.heap.size wr V) => HQK.out V (fun b _ h2 => hb.block b h2))
      obtain ⟨pA, pc, ps⟩ := pr
      dsimp only at yA HPL HQH HQK
      subst hAA hBB
      clear hk hlt hcA hcB hpi hg1 hwo hpr hbA hbB
      have hqq := ql
      go_upto_if 11 with (fail)
      iterate 5 go_step
      go_cut [14] from 14 to 34 (fun s14 wd => s14 = .pointer (some ⟨q, 0, none⟩) ∧ Hid (∃ A2 c5 P, Pk w wd q (k + 1) c (some ⟨bA, oA, none⟩) (some ⟨bB, oB, none⟩) C D l ws os ds c1 c2 c3 c4 A2 c5 P))
      case first =>
        go_upto_region 5 with (fail)
        go_region_law (first
          | (refine step_append_full _ rfl (.tmp 18) (.tmp 31) 122 rfl (q + 1) 126 i0 (.agg #[.slice none 0 0, .int .i64 0, .int .i64 0, .int .i64 0, .int .i64 0, .int .i64 0, .int .i64 0]) 7 72 Tryd.underlying122 hi hz0 hz1 hz2 rfl (by decide) (.slice A2 k c5) k (tab (k * 7) (coreV (seNew l ws l.length) P)) (by simp [Act.eval]) HO2.out (some ⟨w2.heap.size, 0, none⟩) 1 1 (oneC (.slice A3 ps.length c7) wo) (by simp [Act.eval]) (fun e => by cases e) rfl (fun ad e => by cases e; exact HNw.out) (by intro u hu; simp [oneC] at hu; rcases hu with rfl | rfl | rfl <;> rfl) (by unfold maxLen; omega) (by omega) (by have := HK.out.hq; have := HV2.out.2.2.size; have := lt_of HK.out.top; simp; omega) ?_; intro A4 c6 w4 h4 ho hg hf; have HH4 := Lib.hid (show ∀ b, b ≤ q → b < wr.heap.size → w4.heap[b]? = wr.heap[b]? from fun b h1 h2 => (hg.block b (by have := hbw2.size; simp; omega) (fun e => by have := own_ge HK.out.st e.symm; omega)).trans ((Below.heap_alloc _ _ _ (by have := hbw2.size; omega)).trans (hbw2.block b h2))); have QQ := HQK.out w4 (fun b h1 h2 => HH4.out b (Nat.le_of_lt h1) h2); have qf4 : w4.frozen? ⟨q, 0, none⟩ = false := (World.frozen?_of_block (a := ⟨q, 0, none⟩) (HH4.out q (Nat.le_refl _) ql)).trans (qf 0); have q04 := (World.cell?_of_block (a := ⟨q, 0, none⟩) (HH4.out q (Nat.le_refl _) ql)).trans q0; have HAP := Lib.hid (And.intro ho (And.intro hg hf)); clear h4 ho hg hf)
          | (go_simp; go_at_call 54; refine (HPL.out _ (by repeat (with_reducible first | exact Below.refl _ _ | assumption | (refine ext_next (by assumption) ?_) | apply ext_alloc | apply ext_past | apply ext_drew | apply ext_drewN))).mono ?_; rintro e w2 ⟨v, rfl, hv, hvb, hb2⟩; obtain ⟨A3, c7, rfl, hs3, hn3⟩ := hv; have HV2 := Lib.hid (show Pg w2 (.slice A3 ps.length c7) ps ∧ (∀ b, (Value.slice A3 ps.length c7).ownBlock = some b → wr.heap.size ≤ b ∧ b < w2.heap.size) ∧ Below wr.heap.size wr w2 from ⟨⟨A3, c7, rfl, hs3, hn3⟩, hvb, ext_next hb2 (by repeat (with_reducible first | exact Below.refl _ _ | assumption | (refine ext_next (by assumption) ?_) | apply ext_alloc | apply ext_past | apply ext_drew | apply ext_drewN))⟩); have hbw2 : Below wr.heap.size wr w2 := HV2.out.2.2; have ql2 := Nat.lt_of_lt_of_le ql hbw2.size; have tl2 := Nat.lt_of_lt_of_le tl hbw2.size; have lA2 := Nat.lt_of_lt_of_le lA hbw2.size; have lB2 := Nat.lt_of_lt_of_le lB hbw2.size; have QQ := HQH.out w2 hbw2; have HO2 := Lib.hid (show (w2.alloc (.cells #[.slice A3 ps.length c7, .int .i64 0, .int .i64 0, .int .i64 0, .int .i64 0, .int .i64 0, .int .i64 wo] 126)).ownsRow (q + 1) 126 7 (.slice A2 k c5) k (tab (k * 7) (coreV (seNew l ws l.length) P)) from row_keep HK.out.st (fun g hg => (Below.heap_alloc _ _ _ (Nat.lt_of_lt_of_le (HK.out.st.lt g hg).2 HV2.out.2.2.size)).trans (HV2.out.2.2.block g (HK.out.st.lt g hg).2))); have HNw := Lib.hid (show ∀ j u, (oneC (.slice A3 ps.length c7) wo)[j]? = some u → (w2.alloc (.cells #[.slice A3 ps.length c7, .int .i64 0, .int .i64 0, .int .i64 0, .int .i64 0, .int .i64 0, .int .i64 wo] 126)).cell? ((⟨w2.heap.size, 0, none⟩ : Addr).add j) = some u from fun j u hu => by
              rw [Addr.add_lit, Nat.zero_add]
              unfold World.cell?
              rw [show (w2.alloc (.cells #[.slice A3 ps.length c7, .int .i64 0, .int .i64 0, .int .i64 0, .int .i64 0, .int .i64 0, .int .i64 wo] 126)).heap[w2.heap.size]? = _ from alNew rfl]
              simpa [oneC] using hu); have ql2 := Nat.lt_of_lt_of_le ql hbw2.size; have tl2 := Nat.lt_of_lt_of_le tl hbw2.size; have lA2 := Nat.lt_of_lt_of_le lA hbw2.size; have lB2 := Nat.lt_of_lt_of_le lB hbw2.size; have q02 := (hbw2.cell (p := ⟨q, 0, none⟩) ql).trans q0; clear hvb hb2 hs3 hn3))
        all_goals
          have HP2 := Lib.hid (HK.out.next HLT.out.2 hbw2 (v := .slice A3 ps.length c7) (w3 := w2.alloc (.cells #[.slice A3 ps.length c7, .int .i64 0, .int .i64 0, .int .i64 0, .int .i64 0, .int .i64 0, .int .i64 wo] 126)) (by rw [← HPR.out.1]; exact HV2.out.1) HV2.out.2.1 (ext_alloc _ (Below.refl _ _)) (by rw [← HPR.out.2]; exact HAP.out.1) HAP.out.2.1 HAP.out.2.2)
          go_wp2_with fail
          go_meet
          exact ⟨rfl, Lib.hid ⟨_, _, _, HP2.out⟩⟩
      case rest =>
        obtain ⟨rfl, HR⟩ := hcut
        go_wp2_with fail
        go_roundg (l.length - (k + 1))
        case measure => have := HLT.out; omega
        case rel => exact ⟨k + 1, by go_num, by have := HLT.out; omega, HR⟩
    · have ek : decide ((k : Int) < (l.length : Int)) = false := by simp; omega
      have ek2 : decide (k < l.length) = false := by simpa using hlt
      obtain rfl : k = l.length := by omega
      have HCF := Lib.hid (show ∀ ad, C = some ad → ∀ j u, (os.map (Value.int .i64))[j]? = some u → wr.drew.cell? (ad.add j) = some u from (HC.out.ext (ext_drew HK.out.wb.be)).full)
      clear hk hlt
      go_upto_region 6 with (fail)
      go_cut [35] from 35 to 44 (fun s35 wd => s35 = .pointer (some ⟨q, 0, none⟩) ∧ Hid (∃ A3 c6, P6 w wd q c A B C D l ws os ds c1 c2 c3 c4 A2 c5 P A3 c6))
      case first =>
        go_region_law (refine step_append_full _ rfl (.tmp 39) (.tmp 41) 67 rfl (q + 1) 3 i1 (.int .i64 0) 1 8 Tryd.underlying67 hj hy0 hy1 hy2 rfl (by decide) (.slice none 0 0) 0 [] (by simp [Act.eval]) (World.ownsRow_nil _ _ _ _) C os.length c3 (os.map (Value.int .i64)) (by simp [Act.eval]) HCN.out (by simp) HCF.out (by intro u hu; simp at hu; obtain ⟨y, _, rfl⟩ := hu; rfl) (by have := HLEN.out; unfold maxLen; omega) (by have := HLEN.out; omega) (by have := lt_of HK.out.top; simp; omega) ?_; intro A3 c6 w2 h3 ho hg hf; have hgw : wr.grownBy w2 none := ⟨hg.os, hg.tape, hg.output, hg.size, hg.block⟩; have q14 := (World.cell?_of_block (a := ⟨q, 1, none⟩) (hgw.block q ql (fun e => by cases e))).trans q1; have qf4 := (World.frozen?_of_block (a := ⟨q, 1, none⟩) (hgw.block q ql (fun e => by cases e))).trans (qf 1); have HAP := Lib.hid (show w2.ownsRow (q + 1) 3 1 (.slice A3 os.length c6) os.length (os.map (Value.int .i64)) ∧ wr.grownBy w2 none ∧ ∀ g, (Value.slice A3 os.length c6).ownBlock = some g → wr.heap.size ≤ g from ⟨by simpa using ho, hgw, fun g e => by rcases hf g (by simpa using e) with h | h; (cases h); exact h⟩); clear h3 ho hg hf hgw)
        all_goals
          have HP2 := Lib.hid (HK.out.owners HAP.out.2.1 HAP.out.1 HAP.out.2.2)
          go_wp2_with fail
          go_meet
          exact ⟨rfl, Lib.hid ⟨_, _, HP2.out⟩⟩
      case rest =>
        obtain ⟨rfl, HR⟩ := hcut
        clear HCF t0 t1 t2 t3 t4 t5 t6 t7 t8 t9 t10 tl q0 q1 q2 qf ql HK
        obtain ⟨A6, c9, hP⟩ := HR.out
        have HK := Lib.hid hP
        obtain ⟨wr, hwr⟩ : ∃ W, W = wc := ⟨_, rfl⟩
        subst hwr
        obtain ⟨t0, t1, t2, t3, t4, t5, t6, t7, t8, t9, t10⟩ := eleven_at hP.wb.box
        have tl := lt_of hP.wb.box
        have q2 : wr.cell? ⟨q, 2, none⟩ = some (.slice none 0 0) := by simp [World.cell?, hP.top]
        have qf : ∀ o, wr.frozen? ⟨q, o, none⟩ = false := fun o => by simp [World.frozen?, hP.top]
        have ql := lt_of hP.top
        have HDF := Lib.hid (show ∀ ad, D = some ad → ∀ j u, (ds.map (Value.int .i64))[j]? = some u → wr.drew.cell? (ad.add j) = some u from (HD.out.ext (ext_drew HK.out.wb.be)).full)
        clear HR hP
        go_upto_region 7 with (fail)
        go_cut [45] from 45 to 54 (fun s45 wd => s45 = .pointer (some ⟨q, 0, none⟩) ∧ Hid (∃ bL bO bW c7, Dk wd q wd.heap.size q bL bO bW c5 c9 c7 P (maNew c l ws os ds l.length) ∧ Below w.heap.size w wd))
        case first =>
          go_region_law (refine step_append_full _ rfl (.tmp 49) (.tmp 51) 67 rfl (q + 1) 3 i1 (.int .i64 0) 1 8 Tryd.underlying67 hj hy0 hy1 hy2 rfl (by decide) (.slice none 0 0) 0 [] (by simp [Act.eval]) (World.ownsRow_nil _ _ _ _) D ds.length c4 (ds.map (Value.int .i64)) (by simp [Act.eval]) HDN.out (by simp) HDF.out (by intro u hu; simp at hu; obtain ⟨y, _, rfl⟩ := hu; rfl) (by have := HLEN.out; unfold maxLen; omega) (by have := HLEN.out; omega) (by have := lt_of HK.out.top; simp; omega) ?_; intro A3 c6 w2 h3 ho hg hf; have hgw : wr.grownBy w2 none := ⟨hg.os, hg.tape, hg.output, hg.size, hg.block⟩; have q14 := (World.cell?_of_block (a := ⟨q, 2, none⟩) (hgw.block q ql (fun e => by cases e))).trans q2; have qf4 := (World.frozen?_of_block (a := ⟨q, 2, none⟩) (hgw.block q ql (fun e => by cases e))).trans (qf 2); have HAP := Lib.hid (show w2.ownsRow (q + 1) 3 1 (.slice A3 ds.length c6) ds.length (ds.map (Value.int .i64)) ∧ wr.grownBy w2 none ∧ ∀ g, (Value.slice A3 ds.length c6).ownBlock = some g → wr.heap.size ≤ g from ⟨by simpa using ho, hgw, fun g e => by rcases hf g (by simpa using e) with h | h; (cases h); exact h⟩); clear h3 ho hg hf hgw)
          all_goals
            obtain ⟨bL, bO, bW, hdk, hbw⟩ := HK.out.words HAP.out.2.1 HAP.out.1 HAP.out.2.2 HNE.out
            have HP2 := Lib.hid (And.intro hdk hbw)
            clear hdk hbw
            go_wp2_with fail
            go_meet
            exact ⟨rfl, Lib.hid ⟨_, _, _, _, HP2.out⟩⟩
        case rest =>
          obtain ⟨rfl, HR⟩ := hcut
          obtain ⟨bL, bO, bW, c7, hD⟩ := HR.out
          have HDK := Lib.hid hD
          clear hD HR
          go_wp2_with fail
          go_ret
          exact ⟨q, q, bL, bO, bW, _, _, _, _, rfl, HDK.out.1, by have := HQ.out; omega, HDK.out.2⟩
end Go.Proofs.YtkobeajbiendlaaDoor
