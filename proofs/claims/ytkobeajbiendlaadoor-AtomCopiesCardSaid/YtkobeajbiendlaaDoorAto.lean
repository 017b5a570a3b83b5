/- What this text holds: the machine of layer 11 in memory: how it lies, what a store to it leaves; what a step does, in plain words. No condition. What this text holds: numbers within bounds. No condition. What this text holds: what a call of the monitor answers. No condition. What this text holds: whether a world may have a granule, or a word; a core turned to a place of its program. Condition: the table of limits holds what its initialiser lays. What this text holds: the document's answer for the monitor's calls. No condition. -/
import Derived.Test.YtkobeajbiendlaaDoorBnk
import Derived.Test.YtkobeajbiendlaaDoorCor
import Derived.Test.YtkobeajbiendlaaDoorCorF
namespace Go.Proofs.YtkobeajbiendlaaDoor
open Go.RowKit

/-- A core with its program. -/
structure Se where
  r : Nat → Int
  a : Int
  wo : Int
  ov : Bool
  ps : List Ins
/-- A machine. -/
structure Ma where
  m : Mm
  se : Nat → Se
  ow : Nat → Int
def Ma.nc (M : Ma) : Nat := M.m.c.co.toNat
def Ma.ng (M : Ma) : Nat := M.m.c.gr.toNat
theorem Ma.n_of {M : Ma} (h : M.m.c.ok) : (M.nc : Int) = M.m.c.co ∧ 1 ≤ M.nc ∧ M.nc ≤ 4 ∧ (M.ng : Int) = M.m.c.gr ∧ 1 ≤ M.ng ∧ M.ng ≤ 16 ∧ M.m.n = 2 * M.ng := by
  have h5 := Mm.n_of M.m
  have h6 := lin_ok (c := M.m.c) h
  obtain ⟨⟨h1, h2⟩, ⟨h3, h4⟩, _⟩ := h
  unfold Ma.nc Ma.ng
  omega
/-- The cells of the cores. -/
def seatV (se : Nat → Se) (P : Nat → Value) (k : Nat) : Value :=
  if k % 8 < 4 then .int .i64 ((se (k / 8)).r (k % 8)) else if k % 8 = 4 then .int .i64 (se (k / 8)).a else if k % 8 = 5 then .int .i64 (se (k / 8)).wo else if k % 8 = 6 then .bool (se (k / 8)).ov else P (k / 8)
def intV (f : Nat → Int) (k : Nat) : Value := .int .i64 (f k)
structure Mk (w : World) (lo hi p qs qo pm lm hm cs co : Nat) (P : Nat → Value) (M : Ma) : Prop where
  top : w.heap[p]? = some (.cells #[.int .i64 M.m.c.co, .int .i64 M.m.c.gr, .int .i64 M.m.c.se, .int .i64 M.m.c.wa, .int .i64 M.m.c.de, .int .i64 M.m.c.en, .int .i64 M.m.c.ba, .slice (some ⟨qs, 0, none⟩) M.nc cs, .slice (some ⟨qo, 0, none⟩) M.ng co, .pointer (some ⟨pm, 0, none⟩)] 116 (0, 0))
  st : w.ownsRow lo 118 8 (.slice (some ⟨qs, 0, none⟩) M.nc cs) M.nc (tab (M.nc * 8) (seatV M.se P))
  ow : w.ownsRow lo 3 1 (.slice (some ⟨qo, 0, none⟩) M.ng co) M.ng (tab M.ng (intV M.ow))
  pg : ∀ i, i < M.nc → Pg w (P i) (M.se i).ps ∧ ∀ b, (P i).ownBlock = some b → lo ≤ b ∧ b < hi ∧ b ≠ qs ∧ b ≠ qo ∧ (b < lm ∨ hm ≤ b)
  mm : Bm w lm hm pm M.m
  bd : lo ≤ p ∧ p < hi ∧ lo ≤ qs ∧ qs < hi ∧ lo ≤ qo ∧ qo < hi ∧ lo ≤ lm ∧ hm ≤ hi
  ne : p ≠ qs ∧ p ≠ qo ∧ qs ≠ qo ∧ (p < lm ∨ hm ≤ p) ∧ (qs < lm ∨ hm ≤ qs) ∧ (qo < lm ∨ hm ≤ qo)
  sz : hi ≤ w.heap.size
  gl : 1 < lo
theorem Bm.keep {w w' : World} {lo hi p : Nat} {m : Mm} (h : Bm w lo hi p m) (hk : ∀ k, lo ≤ k → k < hi → w'.heap[k]? = w.heap[k]?) (hs : w.heap.size ≤ w'.heap.size) : Bm w' lo hi p m := by
  obtain ⟨q, R, h⟩ := h; exact ⟨q, R, h.keep hk hs⟩
theorem Mk.keep {w w' : World} {lo hi p qs qo pm lm hm cs co : Nat} {P : Nat → Value} {M : Ma} (h : Mk w lo hi p qs qo pm lm hm cs co P M) (hk : ∀ k, lo ≤ k → k < hi → w'.heap[k]? = w.heap[k]?) (hs : w.heap.size ≤ w'.heap.size) : Mk w' lo hi p qs qo pm lm hm cs co P M := by
  obtain ⟨b1, b2, b3, b4, b5, b6, b7, b8⟩ := h.bd
  exact ⟨(hk p b1 b2).trans h.top, row_keep h.st (fun g hg => by obtain rfl := Option.some.inj hg; exact hk _ b3 b4), row_keep h.ow (fun g hg => by obtain rfl := Option.some.inj hg; exact hk _ b5 b6),
    fun i hi' => ⟨(h.pg i hi').1.keep fun g hg => hk g ((h.pg i hi').2 g hg).1 ((h.pg i hi').2 g hg).2.1, (h.pg i hi').2⟩, h.mm.keep (fun k h1 h2 => hk k (by omega) (by omega)) hs, h.bd, h.ne, Nat.le_trans h.sz hs, h.gl⟩
theorem Mk.ext {w w' : World} {lo hi p qs qo pm lm hm cs co : Nat} {P : Nat → Value} {M : Ma} (h : Mk w lo hi p qs qo pm lm hm cs co P M) (hb : Below w.heap.size w w') : Mk w' lo hi p qs qo pm lm hm cs co P M :=
  h.keep (fun k _ hk => hb.block k (by have := h.sz; omega)) hb.size
theorem Mk.lt {w : World} {lo hi p qs qo pm lm hm cs co : Nat} {P : Nat → Value} {M : Ma} (h : Mk w lo hi p qs qo pm lm hm cs co P M) : p < w.heap.size ∧ qs < w.heap.size ∧ qo < w.heap.size := by
  have := h.sz
  obtain ⟨b1, b2, b3, b4, b5, b6, b7, b8⟩ := h.bd
  omega
theorem ten_at {W : World} {B : Nat} {a b c d e f g h i j : Value} {t : TypeId} {fr : Nat × Nat} (hh : W.heap[B]? = some (.cells #[a, b, c, d, e, f, g, h, i, j] t fr)) :
    W.cell? ⟨B, 0, none⟩ = some a ∧ W.cell? ⟨B, 1, none⟩ = some b ∧ W.cell? ⟨B, 2, none⟩ = some c ∧ W.cell? ⟨B, 3, none⟩ = some d ∧ W.cell? ⟨B, 4, none⟩ = some e ∧ W.cell? ⟨B, 5, none⟩ = some f ∧ W.cell? ⟨B, 6, none⟩ = some g ∧ W.cell? ⟨B, 7, none⟩ = some h ∧ W.cell? ⟨B, 8, none⟩ = some i ∧ W.cell? ⟨B, 9, none⟩ = some j := by
  simp [World.cell?, hh]
/-- A core's cells. -/
theorem Mk.seat {w : World} {lo hi p qs qo pm lm hm cs co : Nat} {P : Nat → Value} {M : Ma} (h : Mk w lo hi p qs qo pm lm hm cs co P M) (i : Nat) (hi' : i < M.nc) (j : Nat) (hj : j < 8) : w.cell? ⟨qs, i * 8 + j, none⟩ = some (seatV M.se P (i * 8 + j)) :=
  own_cell h.st (tab_at _ (by omega))
theorem seatV_reg (se : Nat → Se) (P : Nat → Value) (i j : Nat) (hj : j < 4) : seatV se P (i * 8 + j) = .int .i64 ((se i).r j) := by
  unfold seatV
  rw [show (i * 8 + j) / 8 = i by omega, show (i * 8 + j) % 8 = j by omega, if_pos hj]
theorem seatV_4 (se : Nat → Se) (P : Nat → Value) (i : Nat) : seatV se P (i * 8 + 4) = .int .i64 (se i).a := by
  unfold seatV
  rw [show (i * 8 + 4) / 8 = i by omega, show (i * 8 + 4) % 8 = 4 by omega]
  rfl
theorem seatV_5 (se : Nat → Se) (P : Nat → Value) (i : Nat) : seatV se P (i * 8 + 5) = .int .i64 (se i).wo := by
  unfold seatV
  rw [show (i * 8 + 5) / 8 = i by omega, show (i * 8 + 5) % 8 = 5 by omega]
  rfl
theorem seatV_6 (se : Nat → Se) (P : Nat → Value) (i : Nat) : seatV se P (i * 8 + 6) = .bool (se i).ov := by
  unfold seatV
  rw [show (i * 8 + 6) / 8 = i by omega, show (i * 8 + 6) % 8 = 6 by omega]
  rfl
theorem seatV_7 (se : Nat → Se) (P : Nat → Value) (i : Nat) : seatV se P (i * 8 + 7) = P i := by
  unfold seatV
  rw [show (i * 8 + 7) / 8 = i by omega, show (i * 8 + 7) % 8 = 7 by omega]
  rfl
theorem seatV_other (se se' : Nat → Se) (P P' : Nat → Value) (k : Nat) (h : se' (k / 8) = se (k / 8)) (h' : P' (k / 8) = P (k / 8)) : seatV se' P' k = seatV se P k := by
  unfold seatV
  rw [h, h']
theorem Mk.reg {w : World} {lo hi p qs qo pm lm hm cs co : Nat} {P : Nat → Value} {M : Ma} (h : Mk w lo hi p qs qo pm lm hm cs co P M) (i : Nat) (hi' : i < M.nc) (j : Nat) (hj : j < 4) : w.cell? ⟨qs, i * 8 + j, none⟩ = some (.int .i64 ((M.se i).r j)) := by
  rw [h.seat i hi' j (by omega), seatV_reg _ _ _ _ hj]
theorem Mk.sc {w : World} {lo hi p qs qo pm lm hm cs co : Nat} {P : Nat → Value} {M : Ma} (h : Mk w lo hi p qs qo pm lm hm cs co P M) (i : Nat) (hi' : i < M.nc) :
    w.cell? ⟨qs, i * 8 + 4, none⟩ = some (.int .i64 (M.se i).a) ∧ w.cell? ⟨qs, i * 8 + 5, none⟩ = some (.int .i64 (M.se i).wo) ∧ w.cell? ⟨qs, i * 8 + 6, none⟩ = some (.bool (M.se i).ov) ∧ w.cell? ⟨qs, i * 8 + 7, none⟩ = some (P i) ∧ ∀ k, w.frozen? ⟨qs, k, none⟩ = false := by
  refine ⟨?_, ?_, ?_, ?_, own_free h.st⟩
  · rw [h.seat i hi' 4 (by omega), seatV_4]
  · rw [h.seat i hi' 5 (by omega), seatV_5]
  · rw [h.seat i hi' 6 (by omega), seatV_6]
  · rw [h.seat i hi' 7 (by omega), seatV_7]
theorem Mk.own {w : World} {lo hi p qs qo pm lm hm cs co : Nat} {P : Nat → Value} {M : Ma} (h : Mk w lo hi p qs qo pm lm hm cs co P M) (g : Nat) (hg : g < M.ng) : w.cell? ⟨qo, g, none⟩ = some (.int .i64 (M.ow g)) ∧ w.frozen? ⟨qo, g, none⟩ = false :=
  ⟨own_cell h.ow (tab_at _ hg), own_free h.ow g⟩
/-- A store to a core. -/
theorem Mk.setS {w : World} {lo hi p qs qo pm lm hm cs co : Nat} {P : Nat → Value} {M : Ma} (h : Mk w lo hi p qs qo pm lm hm cs co P M) (i : Nat) (j : Nat) (v : Value) (s : Se) (hp : s.ps = (M.se i).ps)
    (hv : seatV (updN M.se i s) P (i * 8 + j) = v) (ho : ∀ x, x < 8 → x ≠ j → seatV (updN M.se i s) P (i * 8 + x) = seatV M.se P (i * 8 + x)) :
    Mk (w.setCell ⟨qs, i * 8 + j, none⟩ v) lo hi p qs qo pm lm hm cs co P { M with se := updN M.se i s } := by
  obtain ⟨n1, n2, n3, n4, n5, n6⟩ := h.ne
  have hb : ∀ g, g ≠ qs → (w.setCell ⟨qs, i * 8 + j, none⟩ v).heap[g]? = w.heap[g]? := fun g hg => Below.heap_setCell _ _ _ _ hg
  refine ⟨(hb p n1).trans h.top, ?_, row_keep h.ow (fun g hg => by obtain rfl := Option.some.inj hg; exact hb _ (fun e => n3 e.symm)), fun x hx => ?_, h.mm.keep (fun k h1 h2 => hb k (by omega)) (by simp), h.bd, h.ne, by simpa using h.sz, h.gl⟩
  · have := own_set h.st (i * 8 + j) v
    rw [tab_set (g := seatV (updN M.se i s) P) hv (fun k _ hk => ?_)] at this
    · exact this
    · by_cases hki : k / 8 = i
      · have e : k = i * 8 + k % 8 := by omega
        rw [e]
        exact ho _ (by omega) (by omega)
      · exact seatV_other _ _ _ _ _ (updN_ne _ _ hki) rfl
  · obtain ⟨h1, h2⟩ := h.pg x hx
    refine ⟨?_, h2⟩
    have : (updN M.se i s x).ps = (M.se x).ps := by
      by_cases hxi : x = i
      · subst hxi
        rw [updN_same, hp]
      · rw [updN_ne _ _ hxi]
    show Pg _ (P x) (updN M.se i s x).ps
    rw [this]
    exact h1.keep fun g hg => hb g (h2 g hg).2.2.1
theorem seat_rest {se : Nat → Se} {P : Nat → Value} {i : Nat} {s : Se} {j : Nat} (h4 : ∀ k, k < 4 → k ≠ j → s.r k = (se i).r k) (ha : j ≠ 4 → s.a = (se i).a) (hw : j ≠ 5 → s.wo = (se i).wo) (ho : j ≠ 6 → s.ov = (se i).ov) :
    ∀ x, x < 8 → x ≠ j → seatV (updN se i s) P (i * 8 + x) = seatV se P (i * 8 + x) := by
  intro x hx hne
  have : x < 4 ∨ x = 4 ∨ x = 5 ∨ x = 6 ∨ x = 7 := by omega
  rcases this with h | rfl | rfl | rfl | rfl
  · rw [seatV_reg _ _ _ _ h, seatV_reg _ _ _ _ h, updN_same, h4 x h hne]
  · rw [seatV_4, seatV_4, updN_same, ha (fun e => hne e.symm)]
  · rw [seatV_5, seatV_5, updN_same, hw (fun e => hne e.symm)]
  · rw [seatV_6, seatV_6, updN_same, ho (fun e => hne e.symm)]
  · rw [seatV_7, seatV_7]
def Ma.setReg (M : Ma) (i k : Nat) (v : Int) : Ma := { M with se := updN M.se i { M.se i with r := updN (M.se i).r k v } }
def Ma.setA (M : Ma) (i : Nat) (v : Int) : Ma := { M with se := updN M.se i { M.se i with a := v } }
def Ma.setWo (M : Ma) (i : Nat) (v : Int) : Ma := { M with se := updN M.se i { M.se i with wo := v } }
def Ma.setOv (M : Ma) (i : Nat) (v : Bool) : Ma := { M with se := updN M.se i { M.se i with ov := v } }
def Ma.setOw (M : Ma) (g : Nat) (v : Int) : Ma := { M with ow := updN M.ow g v }
theorem Mk.reg_set {w : World} {lo hi p qs qo pm lm hm cs co : Nat} {P : Nat → Value} {M : Ma} (h : Mk w lo hi p qs qo pm lm hm cs co P M) (i k : Nat) (hk : k < 4) (v : Int) : Mk (w.setCell ⟨qs, i * 8 + k, none⟩ (.int .i64 v)) lo hi p qs qo pm lm hm cs co P (M.setReg i k v) :=
  h.setS i k _ _ rfl (by rw [seatV_reg _ _ _ _ hk, updN_same]; simp) (seat_rest (fun x _ hx => by simp [updN_ne _ _ hx]) (fun _ => rfl) (fun _ => rfl) (fun _ => rfl))
theorem Mk.a_set {w : World} {lo hi p qs qo pm lm hm cs co : Nat} {P : Nat → Value} {M : Ma} (h : Mk w lo hi p qs qo pm lm hm cs co P M) (i : Nat) (v : Int) : Mk (w.setCell ⟨qs, i * 8 + 4, none⟩ (.int .i64 v)) lo hi p qs qo pm lm hm cs co P (M.setA i v) :=
  h.setS i 4 _ _ rfl (by rw [seatV_4, updN_same]) (seat_rest (fun _ _ _ => rfl) (fun e => absurd rfl e) (fun _ => rfl) (fun _ => rfl))
theorem Mk.wo_set {w : World} {lo hi p qs qo pm lm hm cs co : Nat} {P : Nat → Value} {M : Ma} (h : Mk w lo hi p qs qo pm lm hm cs co P M) (i : Nat) (v : Int) : Mk (w.setCell ⟨qs, i * 8 + 5, none⟩ (.int .i64 v)) lo hi p qs qo pm lm hm cs co P (M.setWo i v) :=
  h.setS i 5 _ _ rfl (by rw [seatV_5, updN_same]) (seat_rest (fun _ _ _ => rfl) (fun _ => rfl) (fun e => absurd rfl e) (fun _ => rfl))
theorem Mk.ov_set {w : World} {lo hi p qs qo pm lm hm cs co : Nat} {P : Nat → Value} {M : Ma} (h : Mk w lo hi p qs qo pm lm hm cs co P M) (i : Nat) (v : Bool) : Mk (w.setCell ⟨qs, i * 8 + 6, none⟩ (.bool v)) lo hi p qs qo pm lm hm cs co P (M.setOv i v) :=
  h.setS i 6 _ _ rfl (by rw [seatV_6, updN_same]) (seat_rest (fun _ _ _ => rfl) (fun _ => rfl) (fun _ => rfl) (fun e => absurd rfl e))
/-- A store to an owner. -/
theorem Mk.ow_set {w : World} {lo hi p qs qo pm lm hm cs co : Nat} {P : Nat → Value} {M : Ma} (h : Mk w lo hi p qs qo pm lm hm cs co P M) (g : Nat) (v : Int) : Mk (w.setCell ⟨qo, g, none⟩ (.int .i64 v)) lo hi p qs qo pm lm hm cs co P (M.setOw g v) := by
  obtain ⟨n1, n2, n3, n4, n5, n6⟩ := h.ne
  have hb : ∀ k, k ≠ qo → (w.setCell ⟨qo, g, none⟩ (.int .i64 v)).heap[k]? = w.heap[k]? := fun k hk => Below.heap_setCell _ _ _ _ hk
  refine ⟨(hb p n2).trans h.top, row_keep h.st (fun k hk => by obtain rfl := Option.some.inj hk; exact hb _ n3), ?_, fun x hx => ⟨(h.pg x hx).1.keep fun k hk => hb k ((h.pg x hx).2 k hk).2.2.2.1, (h.pg x hx).2⟩, h.mm.keep (fun k h1 h2 => hb k (by omega)) (by simp), h.bd, h.ne, by simpa using h.sz, h.gl⟩
  have := own_set h.ow g (.int .i64 v)
  rw [tab_set (g := intV (updN M.ow g v)) (by simp [intV]) (fun k _ hk => by simp [intV, updN_ne _ _ hk])] at this
  exact this
/-- Its memory was turned. -/
theorem Mk.mem {w w' : World} {lo hi p qs qo pm lm hm cs co : Nat} {P : Nat → Value} {M : Ma} (h : Mk w lo hi p qs qo pm lm hm cs co P M) {m' : Mm} (hr : Rg lm hm w w') (hm' : Bm w' lm hm pm m') (hc : m'.c = M.m.c) : Mk w' lo hi p qs qo pm lm hm cs co P { M with m := m' } := by
  obtain ⟨n1, n2, n3, n4, n5, n6⟩ := h.ne
  obtain ⟨l1, l2, l3⟩ := h.lt
  have hnc : ({ M with m := m' } : Ma).nc = M.nc := by unfold Ma.nc; simp only [hc]
  have hng : ({ M with m := m' } : Ma).ng = M.ng := by unfold Ma.ng; simp only [hc]
  refine ⟨?_, ?_, ?_, fun x hx => ?_, hm', h.bd, h.ne, Nat.le_trans h.sz hr.size, h.gl⟩
  · rw [hnc, hng]
    simp only [hc]
    exact (hr.block p l1 n4).trans h.top
  · rw [hnc]
    exact row_keep h.st (fun k hk => by obtain rfl := Option.some.inj hk; exact hr.block _ l2 n5)
  · rw [hng]
    exact row_keep h.ow (fun k hk => by obtain rfl := Option.some.inj hk; exact hr.block _ l3 n6)
  · rw [hnc] at hx
    obtain ⟨h1, h2⟩ := h.pg x hx
    exact ⟨h1.keep fun k hk => hr.block k (by have := (h2 k hk).2.1; have := h.sz; omega) (h2 k hk).2.2.2.2, h2⟩
/-- A machine. -/
def Mc (w : World) (lo hi p : Nat) (M : Ma) : Prop := ∃ qs qo pm lm hm cs co P, Mk w lo hi p qs qo pm lm hm cs co P M
theorem Mc.ext {w w' : World} {lo hi p : Nat} {M : Ma} (h : Mc w lo hi p M) (hb : Below w.heap.size w w') : Mc w' lo hi p M := by
  obtain ⟨qs, qo, pm, lm, hm, cs, co, P, h⟩ := h; exact ⟨qs, qo, pm, lm, hm, cs, co, P, h.ext hb⟩
theorem Mc.keep {w w' : World} {lo hi p : Nat} {M : Ma} (h : Mc w lo hi p M) (hk : ∀ k, lo ≤ k → k < hi → w'.heap[k]? = w.heap[k]?) (hs : w.heap.size ≤ w'.heap.size) : Mc w' lo hi p M := by
  obtain ⟨qs, qo, pm, lm, hm, cs, co, P, h⟩ := h; exact ⟨qs, qo, pm, lm, hm, cs, co, P, h.keep hk hs⟩
theorem Mc.sz {w : World} {lo hi p : Nat} {M : Ma} (h : Mc w lo hi p M) : hi ≤ w.heap.size ∧ lo ≤ p ∧ p < hi := by
  obtain ⟨qs, qo, pm, lm, hm, cs, co, P, h⟩ := h; exact ⟨h.sz, h.bd.1, h.bd.2.1⟩
theorem Mc.ok {w : World} {lo hi p : Nat} {M : Ma} (h : Mc w lo hi p M) : M.m.c.ok := by
  obtain ⟨qs, qo, pm, lm, hm, cs, co, P, h⟩ := h; exact h.mm.ok

/-- May a world have a granule's words? -/
def mayT (wo o : Int) : Bool := (decide (0 ≤ wo) && decide (wo ≤ 3) && (decide (0 ≤ o) && decide (o ≤ 4))) && ((wo == 0 || o == wo) || o == 4)
def Ma.may (M : Ma) (wo word : Int) : Bool := decide (0 ≤ word) && decide (word < 2 * M.m.n) && mayT wo (M.ow (word.toNat / 4))
/-- What a call of the monitor answers: who has the granule then, whether it is scrubbed, and the code. -/
def judge (call wo o tw : Int) : Int × Bool × Int :=
  if wo < 0 ∨ 3 < wo ∨ o < 0 ∨ 4 < o then (0, false, 10)
  else if call = 1 then (if wo ≠ 0 then (0, false, 18) else if o ≠ 0 then (0, false, 16) else if tw < 1 ∨ 3 < tw then (0, false, 1) else (tw, true, 0))
  else if call = 2 then (if o = 0 then (0, false, 16) else if wo ≠ 0 ∧ wo ≠ o then (0, false, 18) else (0, true, 0))
  else if call = 3 then (if wo = 0 ∨ wo ≠ o then (0, false, 18) else if tw < 1 ∨ 3 < tw ∨ tw = o then (0, false, 1) else (tw, true, 0))
  else if call = 4 then (if o = 4 then (0, false, 16) else if wo ≠ o then (0, false, 18) else (4, false, 0))
  else (0, false, 15)
/-- A granule's words turned to 0. -/
def Mm.scrub (m : Mm) (g : Nat) : Mm := (m.put (2 * g) 0 0).put (2 * g + 1) 0 0
def Mm.setWd (m : Mm) (k : Nat) (v : Int) : Mm := { m with wd := updN m.wd k v }
/-- A Load, Store or Swap: its value, its code, and the machine behind it. -/
def Ma.acc (M : Ma) (i : Nat) (x : Ins) : Int × Int × Ma :=
  let s := M.se i
  let wd := s.r x.b.toNat
  if M.may s.wo wd then
    (if x.op = 3 then (M.m.wd wd.toNat, 0, M.setReg i x.a.toNat (M.m.wd wd.toNat))
     else if x.op = 4 then (s.r x.a.toNat, 0, { M with m := M.m.setWd wd.toNat (s.r x.a.toNat) })
     else (M.m.wd wd.toNat, 0, Ma.setReg { M with m := M.m.setWd wd.toNat (s.r x.a.toNat) } i x.a.toNat (M.m.wd wd.toNat)))
  else (0, 19, M)
/-- A call of the monitor: its code, and the machine behind it. -/
def Ma.call (M : Ma) (call wo gr tw : Int) (busy : Bool) : Int × Ma :=
  if gr < 0 ∨ (M.ng : Int) ≤ gr then (10, M) else if busy then (17, M)
  else
    let j := judge call wo (M.ow gr.toNat) tw
    if j.2.2 ≠ 0 then (j.2.2, M) else (0, if j.2.1 then { M.setOw gr.toNat j.1 with m := M.m.scrub gr.toNat } else M.setOw gr.toNat j.1)
def Ma.turn (M : Ma) (i : Nat) (a : Int) : Ma := { M with se := updN M.se i { M.se i with a := a, ov := endB (M.se i).ps a } }
/-- A step of a core that is not over. -/
def Ma.step (M : Ma) (i : Nat) (busy : Bool) : Ev × Ma :=
  let s := M.se i
  let x := atI s.ps s.a.toNat
  if x.op = 1 then (⟨i, s.a, x.op, s.wo, 0, x.b, 0⟩, (M.setReg i x.a.toNat x.b).turn i (s.a + 1))
  else if x.op = 2 then (⟨i, s.a, x.op, s.wo, 0, wrap64 (s.r x.b.toNat + s.r x.c.toNat), 0⟩, (M.setReg i x.a.toNat (wrap64 (s.r x.b.toNat + s.r x.c.toNat))).turn i (s.a + 1))
  else if x.op = 3 ∨ x.op = 4 ∨ x.op = 5 then (⟨i, s.a, x.op, s.wo, s.r x.b.toNat, (M.acc i x).1, (M.acc i x).2.1⟩, (M.acc i x).2.2.turn i (s.a + 1))
  else if x.op = 7 then (if s.wo = 0 then (⟨i, s.a, x.op, s.wo, 0, x.a, 0⟩, (M.setWo i x.a).turn i (s.a + 1)) else (⟨i, s.a, x.op, s.wo, 0, x.a, 18⟩, M.turn i (s.a + 1)))
  else if x.op = 8 then
    (⟨i, s.a, x.op, s.wo, s.r x.b.toNat, s.r x.c.toNat, (M.call x.a s.wo (s.r x.b.toNat) (s.r x.c.toNat) busy).1⟩,
      ((M.call x.a s.wo (s.r x.b.toNat) (s.r x.c.toNat) busy).2.setReg i x.b.toNat (M.call x.a s.wo (s.r x.b.toNat) (s.r x.c.toNat) busy).1).turn i (s.a + 1))
  else if x.op = 9 then (⟨i, s.a, x.op, s.wo, 0, x.a, 0⟩, M.turn i x.a)
  else if x.op = 10 then (⟨i, s.a, x.op, s.wo, 0, s.r x.a.toNat, 0⟩, M.turn i (if s.r x.a.toNat = 0 then x.b else s.a + 1))
  else (⟨i, s.a, x.op, s.wo, 0, 0, 0⟩, M.turn i (s.a + 1))

end Go.Proofs.YtkobeajbiendlaaDoor
namespace Go.Proofs.YtkobeajbiendlaaDoor
open Go.RowKit

/-- Are all numbers from l to m? -/
def allIn (l m : Int) (xs : List Int) : Bool := xs.all fun x => decide (l ≤ x) && decide (x ≤ m)
def inB (l m x : Int) : Bool := decide (l ≤ x) && decide (x ≤ m)
theorem inB_yes {l m x : Int} (h : l ≤ x ∧ x ≤ m) : inB l m x = true := by unfold inB; simp [h.1, h.2]
theorem inB_no {l m x : Int} (h : x < l ∨ m < x) : inB l m x = false := by
  unfold inB
  rcases h with h | h
  · rw [show decide (l ≤ x) = false by simp; omega]; rfl
  · rw [show decide (x ≤ m) = false by simp; omega]; simp
theorem allIn_take {l m : Int} {xs : List Int} {k : Nat} (hk : k < xs.length) : allIn l m (xs.take (k + 1)) = (allIn l m (xs.take k) && inB l m (xs[k]?.getD 0)) := all_take hk
theorem allIn_get {l m : Int} {xs : List Int} {k : Nat} (hk : k < xs.length) (h : inB l m (xs[k]?.getD 0) = false) : allIn l m xs = false := all_get hk h
set_option maxHeartbeats 1000000 in
theorem within_any (l m : Int) (A : Option Addr) (xs : List Int) (c : Nat) (w : World) (h : SlI w A xs) (hn : xs.length ≤ 100000) :
    Calls Tryd.prog 51 #[.int .i64 l, .int .i64 m, .slice A xs.length c] w fun e w' => e = .returned (.bool (allIn l m xs)) ∧ w' = w := by
  have H := Lib.hid h
  clear h
  go_enter Tryd.func51, Tryd.ntmps51
  go_wp2
  go_loopg [11] xs.length (fun g s11 wr => ∃ k : Nat, k + g = xs.length ∧ s11 = .int .i64 k ∧ Hid (allIn l m (xs.take k) = true) ∧ wr = w)
  case atStart => exact ⟨0, by omega, rfl, Lib.hid (by simp [allIn]), rfl⟩
  case round =>
    obtain ⟨k, hk, rfl, HT, rfl⟩ := hrel
    by_cases hlt : k < xs.length
    · have ek : decide (k < xs.length) = true := by simpa using hlt
      have ek2 : decide ((k : Int) < (xs.length : Int)) = true := by simp; omega
      obtain ⟨b, off, rfl, hbl, hcs⟩ := H.out (by omega)
      have y0 := hcs k hlt
      have HS := Lib.hid (allIn_take (l := l) (m := m) hlt)
      have HG := Lib.hid (allIn_get (l := l) (m := m) hlt)
      have HLT := Lib.hid (And.intro hlt hk)
      clear hcs hk
      generalize xs[k]?.getD 0 = x at *
      by_cases h1 : x < l
      · have e1 : decide (x < l) = true := by simpa using h1
        have HF := Lib.hid (HG.out (inB_no (.inl h1)))
        clear h1 HG HS
        go_wp2_with fail
        go_ret
        exact ⟨ret_bool (by rw [HF.out]), rfl⟩
      have e1 : decide (x < l) = false := by simpa using h1
      by_cases h2 : m < x
      · have e2 : decide (x > m) = true := by simpa using h2
        have HF := Lib.hid (HG.out (inB_no (.inr h2)))
        clear h1 h2 HG HS
        go_wp2_with fail
        go_ret
        exact ⟨ret_bool (by rw [HF.out]), rfl⟩
      have e2 : decide (x > m) = false := by simpa using h2
      have HN := Lib.hid (show allIn l m (xs.take (k + 1)) = true by rw [HS.out, HT.out, inB_yes ⟨by omega, by omega⟩]; rfl)
      clear h1 h2 HG HS
      go_wp2_with fail
      go_roundg (xs.length - (k + 1))
      case measure => have := HLT.out; omega
      case rel => exact ⟨k + 1, by have := HLT.out; omega, by go_num, HN, rfl⟩
    · have ek : decide (k < xs.length) = false := by simpa using hlt
      have ek2 : decide ((k : Int) < (xs.length : Int)) = false := by simp; omega
      have HF := Lib.hid (show allIn l m xs = true by have := HT.out; rwa [List.take_of_length_le (by omega)] at this)
      clear hk hlt
      go_wp2_with fail
      go_ret
      exact ⟨ret_bool (by rw [HF.out]), rfl⟩
theorem within1 (l m x : Int) (b : Nat) (w : World) (hc : w.cell? ⟨b, 0, none⟩ = some (.int .i64 x)) :
    Calls Tryd.prog 51 #[.int .i64 l, .int .i64 m, .slice (some ⟨b, 0, none⟩) 1 1] w fun e w' => e = .returned (.bool (inB l m x)) ∧ w' = w := by
  have h := within_any l m (some ⟨b, 0, none⟩) [x] 1 w (fun _ => ⟨b, 0, rfl, World.block_lt_of_cell? w _ hc, fun i hi => by
    have : i = 0 := by simp at hi; omega
    subst this
    exact hc⟩) (by simp)
  simpa [allIn, inB] using h
theorem one_new (w : World) (x : Value) (t : TypeId) : (w.alloc (.cells #[x] t)).cell? ⟨w.heap.size, 0, none⟩ = some x := cell_of (alNew rfl)
theorem within_new (l m x : Int) (b : Nat) (w : World) (t : TypeId) (hb : b = w.heap.size) :
    Calls Tryd.prog 51 #[.int .i64 l, .int .i64 m, .slice (some ⟨b, 0, none⟩) 1 1] (w.alloc (.cells #[.int .i64 x] t)) fun e w' => e = .returned (.bool (inB l m x)) ∧ w' = w.alloc (.cells #[.int .i64 x] t) :=
  within1 l m x _ _ (by rw [hb]; exact one_new _ _ _)

end Go.Proofs.YtkobeajbiendlaaDoor
namespace Go.Proofs.YtkobeajbiendlaaDoor
open Go.RowKit

set_option maxRecDepth 100000 in
theorem judge_w (call wo ow tw : Int) (w : World) (_h0 : inB 0 3 wo = false) : Calls Tryd.prog 25 #[.int .i64 call, .int .i64 wo, .int .i64 ow, .int .i64 tw] w fun e w' => e = .returned (.tuple #[.int .i64 0, .bool false, .int .i64 10]) ∧ Below w.heap.size w w' := by
  go_enter Tryd.func25, Tryd.ntmps25
  go_wp2_with (go_at_call 51; refine (within_new _ _ _ _ _ _ (by simp)).mono ?_; rintro e w' ⟨rfl, hw⟩; rw [hw]; clear hw)
  go_ret3
  exact ⟨rfl, (by repeat (with_reducible first | exact Below.refl _ _ | assumption | (refine ext_next (by assumption) ?_) | apply ext_alloc | apply ext_past | apply ext_drew | apply ext_drewN))⟩

set_option maxRecDepth 100000 in
theorem judge_o (call wo ow tw : Int) (w : World) (_h0 : inB 0 3 wo = true) (_h1 : inB 0 4 ow = false) : Calls Tryd.prog 25 #[.int .i64 call, .int .i64 wo, .int .i64 ow, .int .i64 tw] w fun e w' => e = .returned (.tuple #[.int .i64 0, .bool false, .int .i64 10]) ∧ Below w.heap.size w w' := by
  go_enter Tryd.func25, Tryd.ntmps25
  go_wp2_with (go_at_call 51; refine (within_new _ _ _ _ _ _ (by simp)).mono ?_; rintro e w' ⟨rfl, hw⟩; rw [hw]; clear hw)
  go_ret3
  exact ⟨rfl, (by repeat (with_reducible first | exact Below.refl _ _ | assumption | (refine ext_next (by assumption) ?_) | apply ext_alloc | apply ext_past | apply ext_drew | apply ext_drewN))⟩

set_option maxRecDepth 100000 in
theorem judge_d1 (call wo ow tw : Int) (w : World) (_h0 : inB 0 3 wo = true) (_h1 : inB 0 4 ow = true) (_h2 : (call == 1) = true) (_h3 : (wo != 0) = true) : Calls Tryd.prog 25 #[.int .i64 call, .int .i64 wo, .int .i64 ow, .int .i64 tw] w fun e w' => e = .returned (.tuple #[.int .i64 0, .bool false, .int .i64 18]) ∧ Below w.heap.size w w' := by
  go_enter Tryd.func25, Tryd.ntmps25
  go_wp2_with (go_at_call 51; refine (within_new _ _ _ _ _ _ (by simp)).mono ?_; rintro e w' ⟨rfl, hw⟩; rw [hw]; clear hw)
  go_ret3
  exact ⟨rfl, (by repeat (with_reducible first | exact Below.refl _ _ | assumption | (refine ext_next (by assumption) ?_) | apply ext_alloc | apply ext_past | apply ext_drew | apply ext_drewN))⟩

set_option maxRecDepth 100000 in
theorem judge_d2 (call wo ow tw : Int) (w : World) (_h0 : inB 0 3 wo = true) (_h1 : inB 0 4 ow = true) (_h2 : (call == 1) = true) (_h3 : (wo != 0) = false) (_h4 : (ow != 0) = true) : Calls Tryd.prog 25 #[.int .i64 call, .int .i64 wo, .int .i64 ow, .int .i64 tw] w fun e w' => e = .returned (.tuple #[.int .i64 0, .bool false, .int .i64 16]) ∧ Below w.heap.size w w' := by
  go_enter Tryd.func25, Tryd.ntmps25
  go_wp2_with (go_at_call 51; refine (within_new _ _ _ _ _ _ (by simp)).mono ?_; rintro e w' ⟨rfl, hw⟩; rw [hw]; clear hw)
  go_ret3
  exact ⟨rfl, (by repeat (with_reducible first | exact Below.refl _ _ | assumption | (refine ext_next (by assumption) ?_) | apply ext_alloc | apply ext_past | apply ext_drew | apply ext_drewN))⟩

set_option maxRecDepth 100000 in
theorem judge_d3 (call wo ow tw : Int) (w : World) (_h0 : inB 0 3 wo = true) (_h1 : inB 0 4 ow = true) (_h2 : (call == 1) = true) (_h3 : (wo != 0) = false) (_h4 : (ow != 0) = false) (_h5 : inB 1 3 tw = false) : Calls Tryd.prog 25 #[.int .i64 call, .int .i64 wo, .int .i64 ow, .int .i64 tw] w fun e w' => e = .returned (.tuple #[.int .i64 0, .bool false, .int .i64 1]) ∧ Below w.heap.size w w' := by
  go_enter Tryd.func25, Tryd.ntmps25
  go_wp2_with (go_at_call 51; refine (within_new _ _ _ _ _ _ (by simp)).mono ?_; rintro e w' ⟨rfl, hw⟩; rw [hw]; clear hw)
  go_ret3
  exact ⟨rfl, (by repeat (with_reducible first | exact Below.refl _ _ | assumption | (refine ext_next (by assumption) ?_) | apply ext_alloc | apply ext_past | apply ext_drew | apply ext_drewN))⟩

set_option maxRecDepth 100000 in
theorem judge_d4 (call wo ow tw : Int) (w : World) (_h0 : inB 0 3 wo = true) (_h1 : inB 0 4 ow = true) (_h2 : (call == 1) = true) (_h3 : (wo != 0) = false) (_h4 : (ow != 0) = false) (_h5 : inB 1 3 tw = true) : Calls Tryd.prog 25 #[.int .i64 call, .int .i64 wo, .int .i64 ow, .int .i64 tw] w fun e w' => e = .returned (.tuple #[.int .i64 tw, .bool true, .int .i64 0]) ∧ Below w.heap.size w w' := by
  go_enter Tryd.func25, Tryd.ntmps25
  go_wp2_with (go_at_call 51; refine (within_new _ _ _ _ _ _ (by simp)).mono ?_; rintro e w' ⟨rfl, hw⟩; rw [hw]; clear hw)
  go_ret3
  exact ⟨rfl, (by repeat (with_reducible first | exact Below.refl _ _ | assumption | (refine ext_next (by assumption) ?_) | apply ext_alloc | apply ext_past | apply ext_drew | apply ext_drewN))⟩

set_option maxRecDepth 100000 in
theorem judge_r1 (call wo ow tw : Int) (w : World) (_h0 : inB 0 3 wo = true) (_h1 : inB 0 4 ow = true) (_h2 : (call == 1) = false) (_h3 : (call == 2) = true) (_h4 : (ow == 0) = true) : Calls Tryd.prog 25 #[.int .i64 call, .int .i64 wo, .int .i64 ow, .int .i64 tw] w fun e w' => e = .returned (.tuple #[.int .i64 0, .bool false, .int .i64 16]) ∧ Below w.heap.size w w' := by
  go_enter Tryd.func25, Tryd.ntmps25
  go_wp2_with (go_at_call 51; refine (within_new _ _ _ _ _ _ (by simp)).mono ?_; rintro e w' ⟨rfl, hw⟩; rw [hw]; clear hw)
  go_ret3
  exact ⟨rfl, (by repeat (with_reducible first | exact Below.refl _ _ | assumption | (refine ext_next (by assumption) ?_) | apply ext_alloc | apply ext_past | apply ext_drew | apply ext_drewN))⟩

set_option maxRecDepth 100000 in
theorem judge_r2 (call wo ow tw : Int) (w : World) (_h0 : inB 0 3 wo = true) (_h1 : inB 0 4 ow = true) (_h2 : (call == 1) = false) (_h3 : (call == 2) = true) (_h4 : (ow == 0) = false) (_h5 : (wo != 0) = true) (_h6 : (wo != ow) = true) : Calls Tryd.prog 25 #[.int .i64 call, .int .i64 wo, .int .i64 ow, .int .i64 tw] w fun e w' => e = .returned (.tuple #[.int .i64 0, .bool false, .int .i64 18]) ∧ Below w.heap.size w w' := by
  go_enter Tryd.func25, Tryd.ntmps25
  go_wp2_with (go_at_call 51; refine (within_new _ _ _ _ _ _ (by simp)).mono ?_; rintro e w' ⟨rfl, hw⟩; rw [hw]; clear hw)
  go_ret3
  exact ⟨rfl, (by repeat (with_reducible first | exact Below.refl _ _ | assumption | (refine ext_next (by assumption) ?_) | apply ext_alloc | apply ext_past | apply ext_drew | apply ext_drewN))⟩

set_option maxRecDepth 100000 in
theorem judge_r3 (call wo ow tw : Int) (w : World) (_h0 : inB 0 3 wo = true) (_h1 : inB 0 4 ow = true) (_h2 : (call == 1) = false) (_h3 : (call == 2) = true) (_h4 : (ow == 0) = false) (_h5 : (wo != 0) = false) : Calls Tryd.prog 25 #[.int .i64 call, .int .i64 wo, .int .i64 ow, .int .i64 tw] w fun e w' => e = .returned (.tuple #[.int .i64 0, .bool true, .int .i64 0]) ∧ Below w.heap.size w w' := by
  go_enter Tryd.func25, Tryd.ntmps25
  go_wp2_with (go_at_call 51; refine (within_new _ _ _ _ _ _ (by simp)).mono ?_; rintro e w' ⟨rfl, hw⟩; rw [hw]; clear hw)
  go_ret3
  exact ⟨rfl, (by repeat (with_reducible first | exact Below.refl _ _ | assumption | (refine ext_next (by assumption) ?_) | apply ext_alloc | apply ext_past | apply ext_drew | apply ext_drewN))⟩

set_option maxRecDepth 100000 in
theorem judge_r4 (call wo ow tw : Int) (w : World) (_h0 : inB 0 3 wo = true) (_h1 : inB 0 4 ow = true) (_h2 : (call == 1) = false) (_h3 : (call == 2) = true) (_h4 : (ow == 0) = false) (_h5 : (wo != 0) = true) (_h6 : (wo != ow) = false) : Calls Tryd.prog 25 #[.int .i64 call, .int .i64 wo, .int .i64 ow, .int .i64 tw] w fun e w' => e = .returned (.tuple #[.int .i64 0, .bool true, .int .i64 0]) ∧ Below w.heap.size w w' := by
  go_enter Tryd.func25, Tryd.ntmps25
  go_wp2_with (go_at_call 51; refine (within_new _ _ _ _ _ _ (by simp)).mono ?_; rintro e w' ⟨rfl, hw⟩; rw [hw]; clear hw)
  go_ret3
  exact ⟨rfl, (by repeat (with_reducible first | exact Below.refl _ _ | assumption | (refine ext_next (by assumption) ?_) | apply ext_alloc | apply ext_past | apply ext_drew | apply ext_drewN))⟩

set_option maxRecDepth 100000 in
theorem judge_t1 (call wo ow tw : Int) (w : World) (_h0 : inB 0 3 wo = true) (_h1 : inB 0 4 ow = true) (_h2 : (call == 1) = false) (_h3 : (call == 2) = false) (_h4 : (call == 3) = true) (_h5 : (wo == 0) = true) : Calls Tryd.prog 25 #[.int .i64 call, .int .i64 wo, .int .i64 ow, .int .i64 tw] w fun e w' => e = .returned (.tuple #[.int .i64 0, .bool false, .int .i64 18]) ∧ Below w.heap.size w w' := by
  go_enter Tryd.func25, Tryd.ntmps25
  go_wp2_with (go_at_call 51; refine (within_new _ _ _ _ _ _ (by simp)).mono ?_; rintro e w' ⟨rfl, hw⟩; rw [hw]; clear hw)
  go_ret3
  exact ⟨rfl, (by repeat (with_reducible first | exact Below.refl _ _ | assumption | (refine ext_next (by assumption) ?_) | apply ext_alloc | apply ext_past | apply ext_drew | apply ext_drewN))⟩

set_option maxRecDepth 100000 in
theorem judge_t2 (call wo ow tw : Int) (w : World) (_h0 : inB 0 3 wo = true) (_h1 : inB 0 4 ow = true) (_h2 : (call == 1) = false) (_h3 : (call == 2) = false) (_h4 : (call == 3) = true) (_h5 : (wo == 0) = false) (_h6 : (wo != ow) = true) : Calls Tryd.prog 25 #[.int .i64 call, .int .i64 wo, .int .i64 ow, .int .i64 tw] w fun e w' => e = .returned (.tuple #[.int .i64 0, .bool false, .int .i64 18]) ∧ Below w.heap.size w w' := by
  go_enter Tryd.func25, Tryd.ntmps25
  go_wp2_with (go_at_call 51; refine (within_new _ _ _ _ _ _ (by simp)).mono ?_; rintro e w' ⟨rfl, hw⟩; rw [hw]; clear hw)
  go_ret3
  exact ⟨rfl, (by repeat (with_reducible first | exact Below.refl _ _ | assumption | (refine ext_next (by assumption) ?_) | apply ext_alloc | apply ext_past | apply ext_drew | apply ext_drewN))⟩

set_option maxRecDepth 100000 in
theorem judge_t3 (call wo ow tw : Int) (w : World) (_h0 : inB 0 3 wo = true) (_h1 : inB 0 4 ow = true) (_h2 : (call == 1) = false) (_h3 : (call == 2) = false) (_h4 : (call == 3) = true) (_h5 : (wo == 0) = false) (_h6 : (wo != ow) = false) (_h7 : inB 1 3 tw = false) : Calls Tryd.prog 25 #[.int .i64 call, .int .i64 wo, .int .i64 ow, .int .i64 tw] w fun e w' => e = .returned (.tuple #[.int .i64 0, .bool false, .int .i64 1]) ∧ Below w.heap.size w w' := by
  go_enter Tryd.func25, Tryd.ntmps25
  go_wp2_with (go_at_call 51; refine (within_new _ _ _ _ _ _ (by simp)).mono ?_; rintro e w' ⟨rfl, hw⟩; rw [hw]; clear hw)
  go_ret3
  exact ⟨rfl, (by repeat (with_reducible first | exact Below.refl _ _ | assumption | (refine ext_next (by assumption) ?_) | apply ext_alloc | apply ext_past | apply ext_drew | apply ext_drewN))⟩

set_option maxRecDepth 100000 in
theorem judge_t4 (call wo ow tw : Int) (w : World) (_h0 : inB 0 3 wo = true) (_h1 : inB 0 4 ow = true) (_h2 : (call == 1) = false) (_h3 : (call == 2) = false) (_h4 : (call == 3) = true) (_h5 : (wo == 0) = false) (_h6 : (wo != ow) = false) (_h7 : inB 1 3 tw = true) (_h8 : (tw == ow) = true) : Calls Tryd.prog 25 #[.int .i64 call, .int .i64 wo, .int .i64 ow, .int .i64 tw] w fun e w' => e = .returned (.tuple #[.int .i64 0, .bool false, .int .i64 1]) ∧ Below w.heap.size w w' := by
  go_enter Tryd.func25, Tryd.ntmps25
  go_wp2_with (go_at_call 51; refine (within_new _ _ _ _ _ _ (by simp)).mono ?_; rintro e w' ⟨rfl, hw⟩; rw [hw]; clear hw)
  go_ret3
  exact ⟨rfl, (by repeat (with_reducible first | exact Below.refl _ _ | assumption | (refine ext_next (by assumption) ?_) | apply ext_alloc | apply ext_past | apply ext_drew | apply ext_drewN))⟩

set_option maxRecDepth 100000 in
theorem judge_t5 (call wo ow tw : Int) (w : World) (_h0 : inB 0 3 wo = true) (_h1 : inB 0 4 ow = true) (_h2 : (call == 1) = false) (_h3 : (call == 2) = false) (_h4 : (call == 3) = true) (_h5 : (wo == 0) = false) (_h6 : (wo != ow) = false) (_h7 : inB 1 3 tw = true) (_h8 : (tw == ow) = false) : Calls Tryd.prog 25 #[.int .i64 call, .int .i64 wo, .int .i64 ow, .int .i64 tw] w fun e w' => e = .returned (.tuple #[.int .i64 tw, .bool true, .int .i64 0]) ∧ Below w.heap.size w w' := by
  go_enter Tryd.func25, Tryd.ntmps25
  go_wp2_with (go_at_call 51; refine (within_new _ _ _ _ _ _ (by simp)).mono ?_; rintro e w' ⟨rfl, hw⟩; rw [hw]; clear hw)
  go_ret3
  exact ⟨rfl, (by repeat (with_reducible first | exact Below.refl _ _ | assumption | (refine ext_next (by assumption) ?_) | apply ext_alloc | apply ext_past | apply ext_drew | apply ext_drewN))⟩

set_option maxRecDepth 100000 in
theorem judge_s1 (call wo ow tw : Int) (w : World) (_h0 : inB 0 3 wo = true) (_h1 : inB 0 4 ow = true) (_h2 : (call == 1) = false) (_h3 : (call == 2) = false) (_h4 : (call == 3) = false) (_h5 : (call == 4) = true) (_h6 : (ow == 4) = true) : Calls Tryd.prog 25 #[.int .i64 call, .int .i64 wo, .int .i64 ow, .int .i64 tw] w fun e w' => e = .returned (.tuple #[.int .i64 0, .bool false, .int .i64 16]) ∧ Below w.heap.size w w' := by
  go_enter Tryd.func25, Tryd.ntmps25
  go_wp2_with (go_at_call 51; refine (within_new _ _ _ _ _ _ (by simp)).mono ?_; rintro e w' ⟨rfl, hw⟩; rw [hw]; clear hw)
  go_ret3
  exact ⟨rfl, (by repeat (with_reducible first | exact Below.refl _ _ | assumption | (refine ext_next (by assumption) ?_) | apply ext_alloc | apply ext_past | apply ext_drew | apply ext_drewN))⟩

set_option maxRecDepth 100000 in
theorem judge_s2 (call wo ow tw : Int) (w : World) (_h0 : inB 0 3 wo = true) (_h1 : inB 0 4 ow = true) (_h2 : (call == 1) = false) (_h3 : (call == 2) = false) (_h4 : (call == 3) = false) (_h5 : (call == 4) = true) (_h6 : (ow == 4) = false) (_h7 : (wo != ow) = true) : Calls Tryd.prog 25 #[.int .i64 call, .int .i64 wo, .int .i64 ow, .int .i64 tw] w fun e w' => e = .returned (.tuple #[.int .i64 0, .bool false, .int .i64 18]) ∧ Below w.heap.size w w' := by
  go_enter Tryd.func25, Tryd.ntmps25
  go_wp2_with (go_at_call 51; refine (within_new _ _ _ _ _ _ (by simp)).mono ?_; rintro e w' ⟨rfl, hw⟩; rw [hw]; clear hw)
  go_ret3
  exact ⟨rfl, (by repeat (with_reducible first | exact Below.refl _ _ | assumption | (refine ext_next (by assumption) ?_) | apply ext_alloc | apply ext_past | apply ext_drew | apply ext_drewN))⟩

set_option maxRecDepth 100000 in
theorem judge_s3 (call wo ow tw : Int) (w : World) (_h0 : inB 0 3 wo = true) (_h1 : inB 0 4 ow = true) (_h2 : (call == 1) = false) (_h3 : (call == 2) = false) (_h4 : (call == 3) = false) (_h5 : (call == 4) = true) (_h6 : (ow == 4) = false) (_h7 : (wo != ow) = false) : Calls Tryd.prog 25 #[.int .i64 call, .int .i64 wo, .int .i64 ow, .int .i64 tw] w fun e w' => e = .returned (.tuple #[.int .i64 4, .bool false, .int .i64 0]) ∧ Below w.heap.size w w' := by
  go_enter Tryd.func25, Tryd.ntmps25
  go_wp2_with (go_at_call 51; refine (within_new _ _ _ _ _ _ (by simp)).mono ?_; rintro e w' ⟨rfl, hw⟩; rw [hw]; clear hw)
  go_ret3
  exact ⟨rfl, (by repeat (with_reducible first | exact Below.refl _ _ | assumption | (refine ext_next (by assumption) ?_) | apply ext_alloc | apply ext_past | apply ext_drew | apply ext_drewN))⟩

set_option maxRecDepth 100000 in
theorem judge_n (call wo ow tw : Int) (w : World) (_h0 : inB 0 3 wo = true) (_h1 : inB 0 4 ow = true) (_h2 : (call == 1) = false) (_h3 : (call == 2) = false) (_h4 : (call == 3) = false) (_h5 : (call == 4) = false) : Calls Tryd.prog 25 #[.int .i64 call, .int .i64 wo, .int .i64 ow, .int .i64 tw] w fun e w' => e = .returned (.tuple #[.int .i64 0, .bool false, .int .i64 15]) ∧ Below w.heap.size w w' := by
  go_enter Tryd.func25, Tryd.ntmps25
  go_wp2_with (go_at_call 51; refine (within_new _ _ _ _ _ _ (by simp)).mono ?_; rintro e w' ⟨rfl, hw⟩; rw [hw]; clear hw)
  go_ret3
  exact ⟨rfl, (by repeat (with_reducible first | exact Below.refl _ _ | assumption | (refine ext_next (by assumption) ?_) | apply ext_alloc | apply ext_past | apply ext_drew | apply ext_drewN))⟩


/-- All of them. -/
theorem judge_any (call wo ow tw : Int) (w : World) : Calls Tryd.prog 25 #[.int .i64 call, .int .i64 wo, .int .i64 ow, .int .i64 tw] w fun e w' => e = .returned (.tuple #[.int .i64 (judge call wo ow tw).1, .bool (judge call wo ow tw).2.1, .int .i64 (judge call wo ow tw).2.2]) ∧ Below w.heap.size w w' := by
  by_cases hw : wo < 0 ∨ 3 < wo
  · have e : judge call wo ow tw = (0, false, 10) := by unfold judge; rw [if_pos (by omega)]
    rw [e]; exact judge_w call wo ow tw w (inB_no hw)
  have a0 := inB_yes (l := 0) (m := 3) (x := wo) (by omega)
  by_cases ho : ow < 0 ∨ 4 < ow
  · have e : judge call wo ow tw = (0, false, 10) := by unfold judge; rw [if_pos (by omega)]
    rw [e]; exact judge_o call wo ow tw w a0 (inB_no ho)
  have a1 := inB_yes (l := 0) (m := 4) (x := ow) (by omega)
  have hn : ¬ (wo < 0 ∨ 3 < wo ∨ ow < 0 ∨ 4 < ow) := by omega
  have ne : ∀ {x y : Int}, x ≠ y → (x == y) = false := fun h => by simpa using h
  have eq : ∀ {x y : Int}, x = y → (x == y) = true := fun h => by simpa using h
  have nE : ∀ {x y : Int}, x ≠ y → (x != y) = true := fun h => by simpa using h
  have eQ : ∀ {x y : Int}, x = y → (x != y) = false := fun h => by simpa using h
  by_cases c1 : call = 1
  · by_cases h1 : wo = 0
    · by_cases h2 : ow = 0
      · by_cases h3 : tw < 1 ∨ 3 < tw
        · have e : judge call wo ow tw = (0, false, 1) := by unfold judge; rw [if_neg hn, if_pos c1, if_neg (by omega), if_neg (by omega), if_pos h3]
          rw [e]; exact judge_d3 call wo ow tw w a0 a1 (eq c1) (eQ h1) (eQ h2) (inB_no h3)
        · have e : judge call wo ow tw = (tw, true, 0) := by unfold judge; rw [if_neg hn, if_pos c1, if_neg (by omega), if_neg (by omega), if_neg h3]
          rw [e]; exact judge_d4 call wo ow tw w a0 a1 (eq c1) (eQ h1) (eQ h2) (inB_yes (by omega))
      · have e : judge call wo ow tw = (0, false, 16) := by unfold judge; rw [if_neg hn, if_pos c1, if_neg (by omega), if_pos h2]
        rw [e]; exact judge_d2 call wo ow tw w a0 a1 (eq c1) (eQ h1) (nE h2)
    · have e : judge call wo ow tw = (0, false, 18) := by unfold judge; rw [if_neg hn, if_pos c1, if_pos h1]
      rw [e]; exact judge_d1 call wo ow tw w a0 a1 (eq c1) (nE h1)
  by_cases c2 : call = 2
  · by_cases h1 : ow = 0
    · have e : judge call wo ow tw = (0, false, 16) := by unfold judge; rw [if_neg hn, if_neg c1, if_pos c2, if_pos h1]
      rw [e]; exact judge_r1 call wo ow tw w a0 a1 (ne c1) (eq c2) (eq h1)
    · by_cases h2 : wo = 0
      · have e : judge call wo ow tw = (0, true, 0) := by unfold judge; rw [if_neg hn, if_neg c1, if_pos c2, if_neg h1, if_neg (by omega)]
        rw [e]; exact judge_r3 call wo ow tw w a0 a1 (ne c1) (eq c2) (ne h1) (eQ h2)
      · by_cases h3 : wo = ow
        · have e : judge call wo ow tw = (0, true, 0) := by unfold judge; rw [if_neg hn, if_neg c1, if_pos c2, if_neg h1, if_neg (by omega)]
          rw [e]; exact judge_r4 call wo ow tw w a0 a1 (ne c1) (eq c2) (ne h1) (nE h2) (eQ h3)
        · have e : judge call wo ow tw = (0, false, 18) := by unfold judge; rw [if_neg hn, if_neg c1, if_pos c2, if_neg h1, if_pos ⟨h2, h3⟩]
          rw [e]; exact judge_r2 call wo ow tw w a0 a1 (ne c1) (eq c2) (ne h1) (nE h2) (nE h3)
  by_cases c3 : call = 3
  · by_cases h1 : wo = 0
    · have e : judge call wo ow tw = (0, false, 18) := by unfold judge; rw [if_neg hn, if_neg c1, if_neg c2, if_pos c3, if_pos (.inl h1)]
      rw [e]; exact judge_t1 call wo ow tw w a0 a1 (ne c1) (ne c2) (eq c3) (eq h1)
    · by_cases h2 : wo = ow
      · by_cases h3 : tw < 1 ∨ 3 < tw
        · have e : judge call wo ow tw = (0, false, 1) := by unfold judge; rw [if_neg hn, if_neg c1, if_neg c2, if_pos c3, if_neg (by omega), if_pos (by omega)]
          rw [e]; exact judge_t3 call wo ow tw w a0 a1 (ne c1) (ne c2) (eq c3) (ne h1) (eQ h2) (inB_no h3)
        · by_cases h4 : tw = ow
          · have e : judge call wo ow tw = (0, false, 1) := by unfold judge; rw [if_neg hn, if_neg c1, if_neg c2, if_pos c3, if_neg (by omega), if_pos (by omega)]
            rw [e]; exact judge_t4 call wo ow tw w a0 a1 (ne c1) (ne c2) (eq c3) (ne h1) (eQ h2) (inB_yes (by omega)) (eq h4)
          · have e : judge call wo ow tw = (tw, true, 0) := by unfold judge; rw [if_neg hn, if_neg c1, if_neg c2, if_pos c3, if_neg (by omega), if_neg (by omega)]
            rw [e]; exact judge_t5 call wo ow tw w a0 a1 (ne c1) (ne c2) (eq c3) (ne h1) (eQ h2) (inB_yes (by omega)) (ne h4)
      · have e : judge call wo ow tw = (0, false, 18) := by unfold judge; rw [if_neg hn, if_neg c1, if_neg c2, if_pos c3, if_pos (.inr h2)]
        rw [e]; exact judge_t2 call wo ow tw w a0 a1 (ne c1) (ne c2) (eq c3) (ne h1) (nE h2)
  by_cases c4 : call = 4
  · by_cases h1 : ow = 4
    · have e : judge call wo ow tw = (0, false, 16) := by unfold judge; rw [if_neg hn, if_neg c1, if_neg c2, if_neg c3, if_pos c4, if_pos h1]
      rw [e]; exact judge_s1 call wo ow tw w a0 a1 (ne c1) (ne c2) (ne c3) (eq c4) (eq h1)
    · by_cases h2 : wo = ow
      · have e : judge call wo ow tw = (4, false, 0) := by unfold judge; rw [if_neg hn, if_neg c1, if_neg c2, if_neg c3, if_pos c4, if_neg h1, if_neg (by omega)]
        rw [e]; exact judge_s3 call wo ow tw w a0 a1 (ne c1) (ne c2) (ne c3) (eq c4) (ne h1) (eQ h2)
      · have e : judge call wo ow tw = (0, false, 18) := by unfold judge; rw [if_neg hn, if_neg c1, if_neg c2, if_neg c3, if_pos c4, if_neg h1, if_pos h2]
        rw [e]; exact judge_s2 call wo ow tw w a0 a1 (ne c1) (ne c2) (ne c3) (eq c4) (ne h1) (nE h2)
  have e : judge call wo ow tw = (0, false, 15) := by unfold judge; rw [if_neg hn, if_neg c1, if_neg c2, if_neg c3, if_neg c4]
  rw [e]; exact judge_n call wo ow tw w a0 a1 (ne c1) (ne c2) (ne c3) (ne c4)

end Go.Proofs.YtkobeajbiendlaaDoor
namespace Go.Proofs.YtkobeajbiendlaaDoor
open Go.RowKit

def ownT (o : Int) : Bool := decide (0 ≤ o) && decide (o ≤ 4)
def alikeT (wo o : Int) : Bool := (wo == 0 || o == wo) || o == 4
theorem mayT_def (wo o : Int) : mayT wo o = ((decide (0 ≤ wo) && decide (wo ≤ 3) && ownT o) && alikeT wo o) := rfl
theorem towns_any (o : Int) (w : World) : Calls Tryd.prog 55 #[.int .i64 o] w fun e w' => e = .returned (.bool (ownT o)) ∧ w' = w := by
  by_cases h0 : 0 ≤ o
  · by_cases h4 : o ≤ 4
    · go_enter Tryd.func55, Tryd.ntmps55
      go_wp2
      go_ret
      exact ⟨ret_bool (by simp [ownT, h0, h4]), rfl⟩
    · go_enter Tryd.func55, Tryd.ntmps55
      go_wp2
      go_ret
      exact ⟨ret_bool (by simp [ownT, h4]), rfl⟩
  · go_enter Tryd.func55, Tryd.ntmps55
    go_wp2
    go_ret
    exact ⟨ret_bool (by simp [ownT]; omega), rfl⟩

theorem tmay_any (world owner : Int) (w : World) : Calls Tryd.prog 30 #[.int .i64 world, .int .i64 owner] w fun e w' => e = .returned (.bool (mayT world owner)) ∧ w' = w := by
  by_cases h0 : world < 0
  · go_enter Tryd.func30, Tryd.ntmps30
    go_wp2
    go_ret
    refine ⟨ret_bool ?_, rfl⟩
    have : decide (0 ≤ world) = false := by simp; omega
    simp [mayT_def, this]
  by_cases h3 : 3 < world
  · go_enter Tryd.func30, Tryd.ntmps30
    go_wp2
    go_ret
    refine ⟨ret_bool ?_, rfl⟩
    have : decide (world ≤ 3) = false := by simp; omega
    simp [mayT_def, this]
  have a0 : decide (0 ≤ world) = true := by simp; omega
  have a3 : decide (world ≤ 3) = true := by simp; omega
  have b0 : decide (world < 0) = false := by simp; omega
  have b3 : decide (world > 3) = false := by simp; omega
  cases ho : ownT owner
  · have HO := Lib.hid ho
    have HA := Lib.hid (And.intro a0 a3)
    clear ho a0 a3
    go_enter Tryd.func30, Tryd.ntmps30
    go_wp2_with fail
    refine (towns_any _ _).mono ?_
    rintro e w' ⟨rfl, rfl⟩
    rw [HO.out]
    go_wp2
    go_ret
    exact ⟨ret_bool (by simp [mayT_def, HO.out]), rfl⟩
  · have HO := Lib.hid ho
    have HA := Lib.hid (And.intro a0 a3)
    clear ho a0 a3
    cases h1 : (world == 0)
    · cases h2 : (owner == world)
      · cases h4 : (owner == 4)
        · have HF : Hid (mayT world owner = false) := by show _ = _; simp [mayT_def, alikeT, HO.out, HA.out.1, HA.out.2, h1, h2, h4]
          go_enter Tryd.func30, Tryd.ntmps30
          go_wp2_with fail
          refine (towns_any _ _).mono ?_
          rintro e w' ⟨rfl, rfl⟩
          rw [HO.out]
          go_wp2
          go_ret
          exact ⟨ret_bool (by rw [HF.out]), rfl⟩
        · have HF : Hid (mayT world owner = true) := by show _ = _; simp [mayT_def, alikeT, HO.out, HA.out.1, HA.out.2, h1, h2, h4]
          go_enter Tryd.func30, Tryd.ntmps30
          go_wp2_with fail
          refine (towns_any _ _).mono ?_
          rintro e w' ⟨rfl, rfl⟩
          rw [HO.out]
          go_wp2
          go_ret
          exact ⟨ret_bool (by rw [HF.out]), rfl⟩
      · have HF : Hid (mayT world owner = true) := by show _ = _; simp [mayT_def, alikeT, HO.out, HA.out.1, HA.out.2, h1, h2]
        go_enter Tryd.func30, Tryd.ntmps30
        go_wp2_with fail
        refine (towns_any _ _).mono ?_
        rintro e w' ⟨rfl, rfl⟩
        rw [HO.out]
        go_wp2
        go_ret
        exact ⟨ret_bool (by rw [HF.out]), rfl⟩
    · have HF : Hid (mayT world owner = true) := by show _ = _; simp [mayT_def, alikeT, HO.out, HA.out.1, HA.out.2, h1]
      go_enter Tryd.func30, Tryd.ntmps30
      go_wp2_with fail
      refine (towns_any _ _).mono ?_
      rintro e w' ⟨rfl, rfl⟩
      rw [HO.out]
      go_wp2
      go_ret
      exact ⟨ret_bool (by rw [HF.out]), rfl⟩



theorem turn_eq (M : Ma) (i : Nat) (a : Int) : (M.setA i a).setOv i (endB (M.se i).ps a) = M.turn i a := by
  unfold Ma.setOv Ma.setA Ma.turn
  simp only [updN_same]
  congr 1
  funext k
  by_cases h : k = i
  · subst h; simp
  · rw [updN_ne _ _ h, updN_ne _ _ h, updN_ne _ _ h]
theorem endB_ge {l : List Ins} {a : Int} (h : (l.length : Int) ≤ a) : endB l a = true := by unfold endB; simp [h]
theorem endB_lt {l : List Ins} {k : Nat} (h : k < l.length) : endB l (k : Int) = ((atI l k).op == 11) := by
  unfold endB
  rw [show decide ((k : Int) < 0) = false by simp, show decide ((l.length : Int) ≤ (k : Int)) = false by simp; omega]
  simp
set_option maxHeartbeats 2000000 in
theorem aturn {w : World} {lo hi p qs qo pm lm hm cs co : Nat} {P : Nat → Value} {M : Ma} (h : Mk w lo hi p qs qo pm lm hm cs co P M) (i : Nat) (hi' : i < M.nc) (a : Int) (ha : 0 ≤ a) (hal : (M.se i).ps.length ≤ 1000) :
    Calls Tryd.prog 59 #[.pointer (some ⟨qs, i * 8, none⟩), .int .i64 a] w fun e w' => (∃ r, e = .returned r) ∧ Mk w' lo hi p qs qo pm lm hm cs co P (M.turn i a) ∧ Rg lo hi w w' := by
  obtain ⟨c4, _, c6, c7, hf⟩ := h.sc i hi'
  obtain ⟨_, hql, _⟩ := h.lt
  obtain ⟨A, cap, hP, hS, hA⟩ := (h.pg i hi').1
  have hb := (h.pg i hi').2
  rw [hP] at c7 hb
  have HS := Lib.hid (show Mk ((w.setCell ⟨qs, i * 8 + 4, none⟩ (.int .i64 a)).setCell ⟨qs, i * 8 + 6, none⟩ (.bool (endB (M.se i).ps a))) lo hi p qs qo pm lm hm cs co P (M.turn i a) by
    rw [← turn_eq]; exact (h.a_set i a).ov_set i _)
  have HR := Lib.hid (show Rg lo hi w ((w.setCell ⟨qs, i * 8 + 4, none⟩ (.int .i64 a)).setCell ⟨qs, i * 8 + 6, none⟩ (.bool (endB (M.se i).ps a))) from
    (Rg.set w _ h.bd.2.2.1 h.bd.2.2.2.1).trans (Rg.set _ _ h.bd.2.2.1 h.bd.2.2.2.1))
  have hi4 : (i : Int) ≤ 4 := by have := (Ma.n_of h.mm.ok).2.2.1; omega
  clear h hi'
  generalize M.turn i a = MT at *
  generalize (M.se i).ps = l at *
  clear hA hP
  by_cases hge : (l.length : Int) ≤ a
  · have e0 : decide (a ≥ (l.length : Int)) = true := by simpa using hge
    rw [endB_ge hge] at HS HR
    clear hge hS hb
    go_enter Tryd.func59, Tryd.ntmps59
    go_wp2_with fail
    go_end0
    exact ⟨⟨_, rfl⟩, HS.out, HR.out⟩
  · obtain ⟨k, rfl⟩ : ∃ k : Nat, a = k := ⟨a.toNat, by omega⟩
    have hkl : k < l.length := by omega
    have e0 : decide (l.length ≤ k) = false := by simpa using hkl
    have e1 : (k : Int) < (l.length : Int) := by omega
    obtain ⟨b, off, rfl, hbl, hcs⟩ := hS (by omega)
    have y0 := (hcs k hkl).1
    have hne : b ≠ qs := (hb b rfl).2.2.1
    rw [endB_lt hkl] at HS HR
    clear hge hcs hb
    generalize (atI l k).op = op at *
    go_enter Tryd.func59, Tryd.ntmps59
    go_wp2_with fail
    go_end0
    exact ⟨⟨_, rfl⟩, HS.out, HR.out⟩

theorem may_out {M : Ma} {wo x : Int} (hx : x < 0 ∨ 2 * (M.m.n : Int) ≤ x) : M.may wo x = false := by
  unfold Ma.may
  rcases hx with h | h
  · rw [show decide (0 ≤ x) = false by simp; omega]; rfl
  · rw [show decide (x < 2 * (M.m.n : Int)) = false by simp; omega]; simp
theorem may_in {M : Ma} {wo : Int} {k : Nat} (hk : k < 2 * M.m.n) : M.may wo k = mayT wo (M.ow (k / 4)) := by
  unfold Ma.may
  rw [show decide (0 ≤ (k : Int)) = true by simp, show decide ((k : Int) < 2 * (M.m.n : Int)) = true by simp; omega]
  simp
/-- May a world have a word? -/
theorem amay_no {w : World} {lo hi p qs qo pm lm hm cs co : Nat} {P : Nat → Value} {M : Ma} (h : Mk w lo hi p qs qo pm lm hm cs co P M) (hL : Lims w) (wo x : Int) (hx : x < 0 ∨ 2 * (M.m.n : Int) ≤ x) :
    Calls Tryd.prog 78 #[.pointer (some ⟨p, 0, none⟩), .int .i64 wo, .int .i64 x] w fun e w' => e = .returned (.bool false) ∧ Below w.heap.size w w' := by
  obtain ⟨t0, t1, t2, t3, t4, t5, t6, t7, t8, t9⟩ := ten_at h.top
  obtain ⟨hp, _, _⟩ := h.lt
  have HC := Lib.hid (line_no M.m.c x w hL (by rw [← Mm.n_of]; omega))
  clear h hL hx
  go_enter Tryd.func78, Tryd.ntmps78
  go_wp2_with fail
  refine HC.out.mono ?_
  rintro e w1 ⟨rfl, hb⟩
  go_wp2_with fail
  go_ret
  exact ⟨rfl, hb⟩
set_option maxHeartbeats 1000000 in
theorem amay_ok {w : World} {lo hi p qs qo pm lm hm cs co : Nat} {P : Nat → Value} {M : Ma} (h : Mk w lo hi p qs qo pm lm hm cs co P M) (hL : Lims w) (wo : Int) (k : Nat) (hk : k < 2 * M.m.n) :
    Calls Tryd.prog 78 #[.pointer (some ⟨p, 0, none⟩), .int .i64 wo, .int .i64 k] w fun e w' => e = .returned (.bool (mayT wo (M.ow (k / 4)))) ∧ Below w.heap.size w w' := by
  have hn := Ma.n_of h.mm.ok
  have hln := Mm.n_of M.m
  obtain ⟨kd, hkd⟩ : ∃ d, d = k / 2 := ⟨_, rfl⟩
  obtain ⟨kg, hkg⟩ : ∃ d, d = k / 4 := ⟨_, rfl⟩
  have HC := line_ok M.m.c (k : Int) w hL (by omega) (by omega)
  rw [show (k : Int) / 2 = (kd : Int) by omega] at HC
  have HC := Lib.hid HC
  have HG := Lib.hid (fun (W : World) (hb : Below w.heap.size w W) => show Calls Tryd.prog 90 _ W (fun e w' => e = .returned (.tuple #[.int .i64 (kg : Int), .int .i64 0]) ∧ Below W.heap.size W w') by
    have := gran_ok M.m.c (kd : Int) W (hL.ext hb) (by omega) (by omega)
    rw [show (kd : Int) / 2 = (kg : Int) by omega] at this
    exact this)
  rw [← hkg]
  have hgl : kg < M.ng := by omega
  have hgi : (kg : Int) < (M.ng : Int) := by omega
  have H := Lib.hid h
  obtain ⟨t0, t1, t2, t3, t4, t5, t6, t7, t8, t9⟩ := ten_at h.top
  obtain ⟨hp, _, hq⟩ := h.lt
  have HGL := Lib.hid hgl
  clear h hL hn hln hkd hkg hk hgl
  go_enter Tryd.func78, Tryd.ntmps78
  go_wp2_with fail
  refine HC.out.mono ?_
  rintro e w1 ⟨rfl, hb⟩
  have HB1 := Lib.hid hb
  clear t0 t1 t2 t3 t4 t5 t6 t7 t8 t9 hb hp hq
  obtain ⟨t0, t1, t2, t3, t4, t5, t6, t7, t8, t9⟩ := ten_at (H.out.ext HB1.out).top
  obtain ⟨hp, _, hq⟩ := (H.out.ext HB1.out).lt
  go_wp2_with fail
  refine (HG.out w1 HB1.out).mono ?_
  rintro e w2 ⟨rfl, hb⟩
  have HB2 := Lib.hid (ext_trans HB1.out hb)
  clear t0 t1 t2 t3 t4 t5 t6 t7 t8 t9 hb hp hq
  obtain ⟨t0, t1, t2, t3, t4, t5, t6, t7, t8, t9⟩ := ten_at (H.out.ext HB2.out).top
  obtain ⟨hp, _, hq⟩ := (H.out.ext HB2.out).lt
  have y0 := ((H.out.ext HB2.out).own kg HGL.out).1
  go_wp2_with fail
  refine (tmay_any _ _ _).mono ?_
  rintro e w3 ⟨rfl, hw⟩
  rw [hw]
  clear hw
  go_wp2_with fail
  go_ret
  exact ⟨rfl, HB2.out⟩

end Go.Proofs.YtkobeajbiendlaaDoor
namespace Go.Proofs.YtkobeajbiendlaaDoor
open Go.RowKit

set_option maxHeartbeats 4000000 in
theorem rjudge_any (call wo ow tw : Int) (w : World) : Calls Tryd.prog 26 #[.int .i64 call, .int .i64 wo, .int .i64 ow, .int .i64 tw] w fun e w' => e = .returned (.tuple #[.int .i64 (judge call wo ow tw).1, .bool (judge call wo ow tw).2.1, .int .i64 (judge call wo ow tw).2.2]) ∧ w' = w := by
  generalize hj : judge call wo ow tw = j
  have HJ := Lib.hid hj
  clear hj
  go_enter Tryd.func26, Tryd.ntmps26
  go_wp2
  all_goals go_ret3
  all_goals refine ⟨?_, rfl⟩
  all_goals rw [← HJ.out]
  all_goals clear HJ
  all_goals simp [go_sem]
  all_goals (try simp only [beq_iff_eq, beq_eq_false_iff_ne, bne_iff_ne, ne_eq, bne_eq_false_iff_eq, Bool.not_eq_true', decide_eq_false_iff_not, Bool.not_eq_false', decide_eq_true_eq] at *)
  all_goals
    unfold judge
    (repeat' split) <;> first | (exfalso; omega) | exact ⟨rfl, rfl, rfl⟩
end Go.Proofs.YtkobeajbiendlaaDoor
