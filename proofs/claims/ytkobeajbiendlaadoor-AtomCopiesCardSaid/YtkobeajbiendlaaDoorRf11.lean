/- What this text holds: the document's machine of layer 11 in memory: how it lies, what a store to it leaves. No condition. -/
import Derived.Test.YtkobeajbiendlaaDoorAtmT
import Derived.Test.YtkobeajbiendlaaDoorRef10B
namespace Go.Proofs.YtkobeajbiendlaaDoor
open Go.RowKit

/-- The cells of the document's cores. -/
def coreV (se : Nat → Se) (P : Nat → Value) (k : Nat) : Value :=
  if k % 7 = 0 then P (k / 7) else if k % 7 < 5 then .int .i64 ((se (k / 7)).r (k % 7 - 1)) else if k % 7 = 5 then .int .i64 (se (k / 7)).a else .int .i64 (se (k / 7)).wo
theorem coreV_0 (se : Nat → Se) (P : Nat → Value) (i : Nat) : coreV se P (i * 7) = P i := by
  unfold coreV
  rw [show i * 7 / 7 = i by omega, show i * 7 % 7 = 0 by omega, if_pos rfl]
theorem coreV_r (se : Nat → Se) (P : Nat → Value) (i j : Nat) (hj : j < 4) : coreV se P (i * 7 + (j + 1)) = .int .i64 ((se i).r j) := by
  unfold coreV
  rw [show (i * 7 + (j + 1)) / 7 = i by omega, show (i * 7 + (j + 1)) % 7 = j + 1 by omega, if_neg (by omega), if_pos (by omega), Nat.add_sub_cancel]
theorem coreV_5 (se : Nat → Se) (P : Nat → Value) (i : Nat) : coreV se P (i * 7 + 5) = .int .i64 (se i).a := by
  unfold coreV
  rw [show (i * 7 + 5) / 7 = i by omega, show (i * 7 + 5) % 7 = 5 by omega]
  rfl
theorem coreV_6 (se : Nat → Se) (P : Nat → Value) (i : Nat) : coreV se P (i * 7 + 6) = .int .i64 (se i).wo := by
  unfold coreV
  rw [show (i * 7 + 6) / 7 = i by omega, show (i * 7 + 6) % 7 = 6 by omega]
  rfl
theorem coreV_other (se se' : Nat → Se) (P : Nat → Value) (k : Nat) (h : se' (k / 7) = se (k / 7)) : coreV se' P k = coreV se P k := by
  unfold coreV
  rw [h]
/-- The document's machine; it is told by the same plain words as a machine. -/
structure Dk (w : World) (lo hi q bL bO bW cl co cw : Nat) (P : Nat → Value) (M : Ma) : Prop where
  top : w.heap[q]? = some (.cells #[.slice (some ⟨bL, 0, none⟩) M.nc cl, .slice (some ⟨bO, 0, none⟩) M.ng co, .slice (some ⟨bW, 0, none⟩) (2 * M.m.n) cw] 124 (0, 0))
  st : w.ownsRow lo 126 7 (.slice (some ⟨bL, 0, none⟩) M.nc cl) M.nc (tab (M.nc * 7) (coreV M.se P))
  ow : w.ownsRow lo 3 1 (.slice (some ⟨bO, 0, none⟩) M.ng co) M.ng (tab M.ng (intV M.ow))
  wd : w.ownsRow lo 3 1 (.slice (some ⟨bW, 0, none⟩) (2 * M.m.n) cw) (2 * M.m.n) (tab (2 * M.m.n) (intV M.m.wd))
  pg : ∀ i, i < M.nc → Pg w (P i) (M.se i).ps ∧ ∀ b, (P i).ownBlock = some b → lo ≤ b ∧ b < hi ∧ b ≠ bL ∧ b ≠ bO ∧ b ≠ bW ∧ b ≠ q
  bd : lo ≤ q ∧ q < hi ∧ lo ≤ bL ∧ bL < hi ∧ lo ≤ bO ∧ bO < hi ∧ lo ≤ bW ∧ bW < hi
  ne : q ≠ bL ∧ q ≠ bO ∧ q ≠ bW ∧ bL ≠ bO ∧ bL ≠ bW ∧ bO ≠ bW
  sz : hi ≤ w.heap.size
section
variable {w w' : World} {lo hi q bL bO bW cl co cw : Nat} {P : Nat → Value} {M : Ma}
theorem Dk.keep (h : Dk w lo hi q bL bO bW cl co cw P M) (hk : ∀ k, lo ≤ k → k < hi → w'.heap[k]? = w.heap[k]?) (hs : w.heap.size ≤ w'.heap.size) : Dk w' lo hi q bL bO bW cl co cw P M := by
  obtain ⟨b1, b2, b3, b4, b5, b6, b7, b8⟩ := h.bd
  exact ⟨(hk q b1 b2).trans h.top, row_keep h.st (fun g hg => by obtain rfl := Option.some.inj hg; exact hk _ b3 b4), row_keep h.ow (fun g hg => by obtain rfl := Option.some.inj hg; exact hk _ b5 b6), row_keep h.wd (fun g hg => by obtain rfl := Option.some.inj hg; exact hk _ b7 b8),
    fun i hi' => ⟨(h.pg i hi').1.keep fun g hg => hk g ((h.pg i hi').2 g hg).1 ((h.pg i hi').2 g hg).2.1, (h.pg i hi').2⟩, h.bd, h.ne, Nat.le_trans h.sz hs⟩
theorem Dk.ext (h : Dk w lo hi q bL bO bW cl co cw P M) (hb : Below w.heap.size w w') : Dk w' lo hi q bL bO bW cl co cw P M :=
  h.keep (fun k _ hk => hb.block k (by have := h.sz; omega)) hb.size
theorem Dk.rg {lo' hi' : Nat} (h : Dk w lo hi q bL bO bW cl co cw P M) (hr : Rg lo' hi' w w') (hd : hi ≤ lo' ∨ hi' ≤ lo) : Dk w' lo hi q bL bO bW cl co cw P M :=
  h.keep (fun k h1 h2 => hr.block k (by have := h.sz; omega) (by omega)) hr.size
theorem Dk.lt (h : Dk w lo hi q bL bO bW cl co cw P M) : q < w.heap.size ∧ bL < w.heap.size ∧ bO < w.heap.size ∧ bW < w.heap.size := by
  have := h.sz
  obtain ⟨b1, b2, b3, b4, b5, b6, b7, b8⟩ := h.bd
  omega
theorem Dk.tops (h : Dk w lo hi q bL bO bW cl co cw P M) : w.cell? ⟨q, 0, none⟩ = some (.slice (some ⟨bL, 0, none⟩) M.nc cl) ∧ w.cell? ⟨q, 1, none⟩ = some (.slice (some ⟨bO, 0, none⟩) M.ng co) ∧ w.cell? ⟨q, 2, none⟩ = some (.slice (some ⟨bW, 0, none⟩) (2 * M.m.n) cw) := by
  simp [World.cell?, h.top]
/-- A core's cells. -/
theorem Dk.core (h : Dk w lo hi q bL bO bW cl co cw P M) (i : Nat) (hi' : i < M.nc) : w.cell? ⟨bL, i * 7, none⟩ = some (P i) ∧ w.cell? ⟨bL, i * 7 + 1, none⟩ = some (.int .i64 ((M.se i).r 0)) ∧ w.cell? ⟨bL, i * 7 + 2, none⟩ = some (.int .i64 ((M.se i).r 1)) ∧ w.cell? ⟨bL, i * 7 + 3, none⟩ = some (.int .i64 ((M.se i).r 2)) ∧
    w.cell? ⟨bL, i * 7 + 4, none⟩ = some (.int .i64 ((M.se i).r 3)) ∧ w.cell? ⟨bL, i * 7 + 5, none⟩ = some (.int .i64 (M.se i).a) ∧ w.cell? ⟨bL, i * 7 + 6, none⟩ = some (.int .i64 (M.se i).wo) ∧ ∀ o, w.frozen? ⟨bL, o, none⟩ = false := by
  have g : ∀ j, j < 7 → w.cell? ⟨bL, i * 7 + j, none⟩ = some (coreV M.se P (i * 7 + j)) := fun j hj => own_cell h.st (tab_at _ (by omega))
  refine ⟨?_, ?_, ?_, ?_, ?_, ?_, ?_, own_free h.st⟩
  · have := g 0 (by omega)
    rw [Nat.add_zero, coreV_0] at this
    exact this
  · rw [g 1 (by omega), coreV_r _ _ _ 0 (by omega)]
  · rw [g 2 (by omega), coreV_r _ _ _ 1 (by omega)]
  · rw [g 3 (by omega), coreV_r _ _ _ 2 (by omega)]
  · rw [g 4 (by omega), coreV_r _ _ _ 3 (by omega)]
  · rw [g 5 (by omega), coreV_5]
  · rw [g 6 (by omega), coreV_6]
theorem Dk.own (h : Dk w lo hi q bL bO bW cl co cw P M) (g : Nat) (hg : g < M.ng) : w.cell? ⟨bO, g, none⟩ = some (.int .i64 (M.ow g)) ∧ w.frozen? ⟨bO, g, none⟩ = false := ⟨own_cell h.ow (tab_at _ hg), own_free h.ow g⟩
theorem Dk.word (h : Dk w lo hi q bL bO bW cl co cw P M) (k : Nat) (hk : k < 2 * M.m.n) : w.cell? ⟨bW, k, none⟩ = some (.int .i64 (M.m.wd k)) ∧ w.frozen? ⟨bW, k, none⟩ = false := ⟨own_cell h.wd (tab_at _ hk), own_free h.wd k⟩
/-- A store to an owner. -/
theorem Dk.ow_set (h : Dk w lo hi q bL bO bW cl co cw P M) (g : Nat) (v : Int) : Dk (w.setCell ⟨bO, g, none⟩ (.int .i64 v)) lo hi q bL bO bW cl co cw P (M.setOw g v) := by
  obtain ⟨n1, n2, n3, n4, n5, n6⟩ := h.ne
  have hb : ∀ k, k ≠ bO → (w.setCell ⟨bO, g, none⟩ (.int .i64 v)).heap[k]? = w.heap[k]? := fun k hk => Below.heap_setCell _ _ _ _ hk
  refine ⟨(hb q n2).trans h.top, row_keep h.st (fun k hk => by obtain rfl := Option.some.inj hk; exact hb _ n4), ?_, row_keep h.wd (fun k hk => by obtain rfl := Option.some.inj hk; exact hb _ (fun e => n6 e.symm)), fun x hx => ⟨(h.pg x hx).1.keep fun k hk => hb k ((h.pg x hx).2 k hk).2.2.2.1, (h.pg x hx).2⟩, h.bd, h.ne, by simpa using h.sz⟩
  have := own_set h.ow g (.int .i64 v)
  rw [tab_set (g := intV (updN M.ow g v)) (by simp [intV]) (fun k _ hk => by simp [intV, updN_ne _ _ hk])] at this
  exact this
/-- A store to a word. -/
theorem Dk.wd_set (h : Dk w lo hi q bL bO bW cl co cw P M) (k : Nat) (v : Int) : Dk (w.setCell ⟨bW, k, none⟩ (.int .i64 v)) lo hi q bL bO bW cl co cw P { M with m := M.m.setWd k v } := by
  obtain ⟨n1, n2, n3, n4, n5, n6⟩ := h.ne
  have hb : ∀ g, g ≠ bW → (w.setCell ⟨bW, k, none⟩ (.int .i64 v)).heap[g]? = w.heap[g]? := fun g hg => Below.heap_setCell _ _ _ _ hg
  refine ⟨(hb q n3).trans h.top, row_keep h.st (fun g hg => by obtain rfl := Option.some.inj hg; exact hb _ n5), row_keep h.ow (fun g hg => by obtain rfl := Option.some.inj hg; exact hb _ n6), ?_, fun x hx => ⟨(h.pg x hx).1.keep fun g hg => hb g ((h.pg x hx).2 g hg).2.2.2.2.1, (h.pg x hx).2⟩, h.bd, h.ne, by simpa using h.sz⟩
  have := own_set h.wd k (.int .i64 v)
  rw [tab_set (g := intV (updN M.m.wd k v)) (by simp [intV]) (fun g _ hg => by simp [intV, updN_ne _ _ hg])] at this
  exact this
theorem core_tab {M : Ma} {P : Nat → Value} (i : Nat) (hi' : i < M.nc) (s : Se) : ((((((((tab (M.nc * 7) (coreV M.se P)).set (i * 7) (P i)).set (i * 7 + 1) (.int .i64 (s.r 0))).set (i * 7 + 2) (.int .i64 (s.r 1))).set (i * 7 + 3) (.int .i64 (s.r 2))).set (i * 7 + 4) (.int .i64 (s.r 3))).set (i * 7 + 5) (.int .i64 s.a)).set (i * 7 + 6) (.int .i64 s.wo)) = tab (M.nc * 7) (coreV (updN M.se i s) P) := by
  apply List.ext_getElem?
  intro k
  by_cases hk : k < M.nc * 7
  · rw [tab_at _ hk]
    simp only [List.getElem?_set, List.length_set, tab_len]
    by_cases hki : k / 7 = i
    · have hs : updN M.se i s i = s := updN_same _ _ _
      have e : k = i * 7 ∨ k = i * 7 + (0 + 1) ∨ k = i * 7 + (1 + 1) ∨ k = i * 7 + (2 + 1) ∨ k = i * 7 + (3 + 1) ∨ k = i * 7 + 5 ∨ k = i * 7 + 6 := by omega
      rcases e with e | e | e | e | e | e | e <;> subst e
      · rw [coreV_0]; simp; omega
      · rw [coreV_r _ _ _ 0 (by omega), hs]; simp; omega
      · rw [coreV_r _ _ _ 1 (by omega), hs]; simp; omega
      · rw [coreV_r _ _ _ 2 (by omega), hs]; simp; omega
      · rw [coreV_r _ _ _ 3 (by omega), hs]; simp; omega
      · rw [coreV_5, hs]; simp; omega
      · rw [coreV_6, hs]; simp; omega
    · rw [coreV_other M.se (updN M.se i s) P k (updN_ne _ _ hki)]
      rw [if_neg (by omega), if_neg (by omega), if_neg (by omega), if_neg (by omega), if_neg (by omega), if_neg (by omega), if_neg (by omega), tab_at _ hk]
  · rw [List.getElem?_eq_none (by simp; omega), List.getElem?_eq_none (by simp; omega)]
/-- A core is laid anew: its seven cells. -/
theorem Dk.core_set (h : Dk w lo hi q bL bO bW cl co cw P M) (i : Nat) (hi' : i < M.nc) (s : Se) (hp : s.ps = (M.se i).ps) :
    Dk (((((((w.setCell ⟨bL, i * 7, none⟩ (P i)).setCell ⟨bL, i * 7 + 1, none⟩ (.int .i64 (s.r 0))).setCell ⟨bL, i * 7 + 2, none⟩ (.int .i64 (s.r 1))).setCell ⟨bL, i * 7 + 3, none⟩ (.int .i64 (s.r 2))).setCell ⟨bL, i * 7 + 4, none⟩ (.int .i64 (s.r 3))).setCell ⟨bL, i * 7 + 5, none⟩ (.int .i64 s.a)).setCell ⟨bL, i * 7 + 6, none⟩ (.int .i64 s.wo))
      lo hi q bL bO bW cl co cw P { M with se := updN M.se i s } := by
  obtain ⟨n1, n2, n3, n4, n5, n6⟩ := h.ne
  have hb : ∀ g, g ≠ bL → (((((((w.setCell ⟨bL, i * 7, none⟩ (P i)).setCell ⟨bL, i * 7 + 1, none⟩ (.int .i64 (s.r 0))).setCell ⟨bL, i * 7 + 2, none⟩ (.int .i64 (s.r 1))).setCell ⟨bL, i * 7 + 3, none⟩ (.int .i64 (s.r 2))).setCell ⟨bL, i * 7 + 4, none⟩ (.int .i64 (s.r 3))).setCell ⟨bL, i * 7 + 5, none⟩ (.int .i64 s.a)).setCell ⟨bL, i * 7 + 6, none⟩ (.int .i64 s.wo)).heap[g]? = w.heap[g]? := fun g hg => by
    rw [Below.heap_setCell _ _ _ _ hg, Below.heap_setCell _ _ _ _ hg, Below.heap_setCell _ _ _ _ hg, Below.heap_setCell _ _ _ _ hg, Below.heap_setCell _ _ _ _ hg, Below.heap_setCell _ _ _ _ hg, Below.heap_setCell _ _ _ _ hg]
  refine ⟨(hb q n1).trans h.top, ?_, row_keep h.ow (fun g hg => by obtain rfl := Option.some.inj hg; exact hb _ (fun e => n4 e.symm)), row_keep h.wd (fun g hg => by obtain rfl := Option.some.inj hg; exact hb _ (fun e => n5 e.symm)), fun x hx => ⟨?_, (h.pg x hx).2⟩, h.bd, h.ne, by simpa using h.sz⟩
  · have h7 := own_set (own_set (own_set (own_set (own_set (own_set (own_set h.st (i * 7) (P i)) (i * 7 + 1) (.int .i64 (s.r 0))) (i * 7 + 2) (.int .i64 (s.r 1))) (i * 7 + 3) (.int .i64 (s.r 2))) (i * 7 + 4) (.int .i64 (s.r 3))) (i * 7 + 5) (.int .i64 s.a)) (i * 7 + 6) (.int .i64 s.wo)
    have hl : ((((((((tab (M.nc * 7) (coreV M.se P)).set (i * 7) (P i)).set (i * 7 + 1) (.int .i64 (s.r 0))).set (i * 7 + 2) (.int .i64 (s.r 1))).set (i * 7 + 3) (.int .i64 (s.r 2))).set (i * 7 + 4) (.int .i64 (s.r 3))).set (i * 7 + 5) (.int .i64 s.a)).set (i * 7 + 6) (.int .i64 s.wo)) = tab (M.nc * 7) (coreV (updN M.se i s) P) := core_tab i hi' s
    rw [hl] at h7
    exact h7
  · have : (updN M.se i s x).ps = (M.se x).ps := by
      by_cases hxi : x = i
      · subst hxi
        rw [updN_same, hp]
      · rw [updN_ne _ _ hxi]
    show Pg _ (P x) (updN M.se i s x).ps
    rw [this]
    exact (h.pg x hx).1.keep fun g hg => hb g ((h.pg x hx).2 g hg).2.2.1
end
end Go.Proofs.YtkobeajbiendlaaDoor
