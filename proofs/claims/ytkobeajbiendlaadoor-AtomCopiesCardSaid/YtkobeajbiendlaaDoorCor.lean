/- What this text holds: a core in memory; a new one; where it is over; its next instruction. Condition: the table of ops holds what its initialiser lays. What this text holds: a new core; its next instruction; the event of one. Condition: the table of ops holds what its initialiser lays. What this text holds: what a core does by itself. No condition. -/
import Derived.Test.YtkobeajbiendlaaDoorIsx
import Derived.Test.YtkobeajbiendlaaDoorBas
import Derived.Lib.SmallJoins
import Derived.Deep.CutRange
namespace Go.Proofs.YtkobeajbiendlaaDoor
open Go.RowKit

/-- The cells of instructions. -/
def flatI (l : List Ins) : List Value := l.flatMap fun x => [.int .i64 x.op, .int .i64 x.a, .int .i64 x.b, .int .i64 x.c]
theorem flatI_len (l : List Ins) : (flatI l).length = l.length * 4 := by
  induction l with
  | nil => rfl
  | cons x xs ih => simp [flatI] at ih ⊢; omega
theorem flatI_at (l : List Ins) : ∀ i, i < l.length → (flatI l)[i * 4]? = some (.int .i64 (atI l i).op) ∧ (flatI l)[i * 4 + 1]? = some (.int .i64 (atI l i).a) ∧ (flatI l)[i * 4 + 2]? = some (.int .i64 (atI l i).b) ∧ (flatI l)[i * 4 + 3]? = some (.int .i64 (atI l i).c) := by
  induction l with
  | nil => intro i hi; simp at hi
  | cons x xs ih =>
    intro i hi
    cases i with
    | zero => exact ⟨rfl, rfl, rfl, rfl⟩
    | succ i =>
      obtain ⟨h1, h2, h3, h4⟩ := ih i (by simpa using hi)
      rw [Nat.succ_mul]
      refine ⟨?_, ?_, ?_, ?_⟩
      · simpa [flatI, atI] using h1
      · simpa [flatI, atI] using h2
      · simpa [flatI, atI] using h3
      · simpa [flatI, atI] using h4
theorem flatI_one (l : List Ins) : ∀ u ∈ flatI l, u.oneCell' = true := by
  intro u hu
  simp only [flatI, List.mem_flatMap] at hu
  obtain ⟨x, _, hx⟩ := hu
  simp at hx
  rcases hx with rfl | rfl | rfl | rfl <;> rfl
theorem SlN.full {w : World} {A : Option Addr} {l : List Ins} (h : SlN w A l) : ∀ ad, A = some ad → ∀ j u, (flatI l)[j]? = some u → w.cell? (ad.add j) = some u := by
  intro ad hA j u hu
  have hj : j < l.length * 4 := by rw [← flatI_len]; exact (List.getElem?_eq_some_iff.1 hu).1
  obtain ⟨b, off, hA', hb, hc⟩ := h (by omega)
  rw [hA] at hA'
  obtain rfl := Option.some.inj hA'
  rw [Addr.add_lit]
  obtain ⟨f0, f1, f2, f3⟩ := flatI_at l (j / 4) (by omega)
  obtain ⟨c0, c1, c2, c3⟩ := hc (j / 4) (by omega)
  have : j = j / 4 * 4 ∨ j = j / 4 * 4 + 1 ∨ j = j / 4 * 4 + 2 ∨ j = j / 4 * 4 + 3 := by omega
  rcases this with e | e | e | e <;> rw [e] at hu ⊢
  · rw [f0] at hu; rw [← hu]; exact c0
  · rw [f1] at hu; rw [← hu, ← Nat.add_assoc]; exact c1
  · rw [f2] at hu; rw [← hu, ← Nat.add_assoc]; exact c2
  · rw [f3] at hu; rw [← hu, ← Nat.add_assoc]; exact c3
theorem row_slI {w : World} {base : Nat} {A : Option Addr} {n c : Nat} {l : List Ins} (h : w.ownsRow base 36 4 (.slice A n c) l.length (flatI l)) : SlN w A l := by
  rcases h.2 with ⟨hv, h0⟩ | ⟨g, cap, cur, hv, hb, hg, hc1, hc2, hc3, hc4⟩
  · intro h1
    omega
  · obtain ⟨rfl, _, _⟩ := Value.slice.inj hv
    have key : ∀ j u, (flatI l)[j]? = some u → w.cell? ⟨g, 0 + j, none⟩ = some u := by
      intro j u hu
      have hj : j < l.length * 4 := by rw [← flatI_len]; exact (List.getElem?_eq_some_iff.1 hu).1
      rw [← hc4, List.getElem?_take, if_pos hj] at hu
      unfold World.cell?
      rw [hg, Nat.zero_add]
      simpa using hu
    exact fun _ => ⟨g, 0, rfl, lt_of hg, fun i hi => ⟨key _ _ (flatI_at l i hi).1, key _ _ (flatI_at l i hi).2.1, key _ _ (flatI_at l i hi).2.2.1, key _ _ (flatI_at l i hi).2.2.2⟩⟩

theorem info_ins : (Tryd.prog.info? 36).map (fun i => (i.zero, i.size, i.bytes)) = some (some (.agg #[.int .i64 0, .int .i64 0, .int .i64 0, .int .i64 0]), 4, 32) := by kernel_rfl
/-- A program in memory: a slice that reads as it, of cells of its own. -/
def Pg (w : World) (v : Value) (l : List Ins) : Prop := ∃ A c, v = .slice A l.length c ∧ SlN w A l ∧ (A = none → l.length = 0 ∧ c = 0)
theorem Pg.ext {w w' : World} {v : Value} {l : List Ins} (h : Pg w v l) (hb : Below w.heap.size w w') : Pg w' v l := by
  obtain ⟨A, c, h1, h2, h3⟩ := h
  exact ⟨A, c, h1, h2.ext hb, h3⟩
theorem SlN.keep {w w' : World} {A : Option Addr} {l : List Ins} (h : SlN w A l) (k : ∀ ad, A = some ad → w'.heap[ad.block]? = w.heap[ad.block]?) : SlN w' A l := fun h0 => by
  obtain ⟨b, off, hA, hl, hc⟩ := h h0
  have e := k _ hA
  have hs : b < w'.heap.size := by
    have h1 := (hc 0 h0).1
    have h2 := World.cell?_of_block (a := ⟨b, off + 0 * 4, none⟩) e
    rw [h1] at h2
    exact World.block_lt_of_cell? w' _ h2
  exact ⟨b, off, hA, hs, fun i hi => ⟨(World.cell?_of_block (a := ⟨b, off + i * 4, none⟩) e).trans (hc i hi).1, (World.cell?_of_block (a := ⟨b, off + i * 4 + 1, none⟩) e).trans (hc i hi).2.1, (World.cell?_of_block (a := ⟨b, off + i * 4 + 2, none⟩) e).trans (hc i hi).2.2.1, (World.cell?_of_block (a := ⟨b, off + i * 4 + 3, none⟩) e).trans (hc i hi).2.2.2⟩⟩

set_option maxRecDepth 100000 in
theorem iclone_any (A : Option Addr) (l : List Ins) (c : Nat) (w : World) (h : SlN w A l) (hA : A = none → l.length = 0 ∧ c = 0) (hn : l.length ≤ 1000) :
    Calls Tryd.prog 45 #[.slice A l.length c] w fun e w' => ∃ v, e = .returned v ∧ Pg w' v l ∧ (∀ g, v.ownBlock = some g → w.heap.size ≤ g ∧ g < w'.heap.size) ∧ Below w.heap.size w w' := by
  obtain ⟨i0, hi, hz0, hz1, hz2⟩ := info_parts info_ins
  have H := Lib.hid h
  have HA := Lib.hid hA
  clear h hA
  cases A with
  | none =>
    have hc := HA.out rfl
    obtain ⟨h0, rfl⟩ := hc
    obtain rfl := List.eq_nil_of_length_eq_zero h0
    have hnil := fun wx => Lib.run_eql_slice_nil (P := Tryd.prog) wx 22 36 none 0 0 0 0 Tryd.underlying22
    go_enter Tryd.func45, Tryd.ntmps45
    go_wp2_with fail
    go_ret
    exact ⟨_, rfl, ⟨none, 0, rfl, fun h => absurd h (by simp), fun _ => ⟨rfl, rfl⟩⟩, (fun g e => by cases e), Below.refl _ _⟩
  | some ad =>
    have hnil := fun wx => Lib.run_eql_slice_nil (P := Tryd.prog) wx 22 36 (some ad) l.length c 0 0 Tryd.underlying22
    go_enter Tryd.func45, Tryd.ntmps45
    go_wp2_with (at_builtin; refine wpList_append_own _ rfl _ _ 22 rfl w.heap.size 36 i0 (.agg #[.int .i64 0, .int .i64 0, .int .i64 0, .int .i64 0]) 4 32 Tryd.underlying22 hi hz0 hz1 hz2 rfl (by decide) _ _ _ rfl (World.ownsRow_made w #[] 0 (Nat.le_refl _) (Nat.zero_le _) rfl) ad l.length c (flatI l) rfl (flatI_len l) ?c1 ?c2 ?c3 ?c4 ?c5 ?_)
    case c1 => exact (H.out.ext ((Below.refl _ _).alloc (Nat.le_refl _) _)).full ad rfl
    case c2 => exact flatI_one l
    case c3 => unfold maxLen; omega
    case c4 => omega
    case c5 => simp
    intro v' w1 hown hgrow _
    have HO : Hid (w1.ownsRow w.heap.size 36 4 v' l.length (flatI l)) := Lib.hid (by simpa using hown)
    have HB : Hid (Below w.heap.size w w1) := Lib.hid (((Below.refl w.heap.size w).alloc (Nat.le_refl _) (.cells #[] 36)).grown hgrow (by simp) (fun k hk => by simp [Value.ownBlock] at hk; omega))
    clear hown hgrow hnil
    go_wp2_with fail
    go_ret
    obtain ⟨A', c', rfl, hA'⟩ := row_form HO.out
    exact ⟨_, rfl, ⟨A', c', rfl, row_slI HO.out, hA'⟩, fun g hg => HO.out.lt g hg, HB.out⟩

/-- A core's state. -/
structure CoS where
  r : Nat → Int
  a : Int
  wo : Int
  ov : Bool
  no : Int
  ps : List Ins
/-- A core in memory. -/
structure Kc (w : World) (p : Nat) (v : Value) (s : CoS) : Prop where
  blk : w.heap[p]? = some (.cells #[.int .i64 (s.r 0), .int .i64 (s.r 1), .int .i64 (s.r 2), .int .i64 (s.r 3), .int .i64 s.a, .int .i64 s.wo, .bool s.ov, .int .i64 s.no, v] 34 (0, 0))
  pg : Pg w v s.ps
  ne : ∀ ad c n, v = .slice (some ad) n c → ad.block ≠ p
theorem Kc.lt {w : World} {p : Nat} {v : Value} {s : CoS} (h : Kc w p v s) : p < w.heap.size := lt_of h.blk
theorem Kc.cells {w : World} {p : Nat} {v : Value} {s : CoS} (h : Kc w p v s) : w.cell? ⟨p, 0, none⟩ = some (.int .i64 (s.r 0)) ∧ w.cell? ⟨p, 1, none⟩ = some (.int .i64 (s.r 1)) ∧ w.cell? ⟨p, 2, none⟩ = some (.int .i64 (s.r 2)) ∧ w.cell? ⟨p, 3, none⟩ = some (.int .i64 (s.r 3)) ∧
    w.cell? ⟨p, 4, none⟩ = some (.int .i64 s.a) ∧ w.cell? ⟨p, 5, none⟩ = some (.int .i64 s.wo) ∧ w.cell? ⟨p, 6, none⟩ = some (.bool s.ov) ∧ w.cell? ⟨p, 7, none⟩ = some (.int .i64 s.no) ∧ w.cell? ⟨p, 8, none⟩ = some v := by
  have := h.blk
  simp [World.cell?, this]
theorem Kc.reg {w : World} {p : Nat} {v : Value} {s : CoS} (h : Kc w p v s) (i : Nat) (hi : i < 4) : w.cell? ⟨p, i, none⟩ = some (.int .i64 (s.r i)) := by
  obtain ⟨h0, h1, h2, h3, _⟩ := h.cells
  have : i = 0 ∨ i = 1 ∨ i = 2 ∨ i = 3 := by omega
  rcases this with rfl | rfl | rfl | rfl <;> assumption
theorem Kc.free {w : World} {p : Nat} {v : Value} {s : CoS} (h : Kc w p v s) (i : Nat) : w.frozen? ⟨p, i, none⟩ = false := by
  have := h.blk
  simp [World.frozen?, this]
theorem Pg.keep {w w' : World} {v : Value} {l : List Ins} (h : Pg w v l) (k : ∀ g, v.ownBlock = some g → w'.heap[g]? = w.heap[g]?) : Pg w' v l := by
  obtain ⟨A, c, rfl, h2, h3⟩ := h
  exact ⟨A, c, rfl, h2.keep (fun ad hA => by subst hA; exact k _ rfl), h3⟩
theorem Kc.put {w w' : World} {p : Nat} {v : Value} {s s' : CoS} (h : Kc w p v s) (hp : s'.ps = s.ps) (hb : w'.heap[p]? = some (.cells #[.int .i64 (s'.r 0), .int .i64 (s'.r 1), .int .i64 (s'.r 2), .int .i64 (s'.r 3), .int .i64 s'.a, .int .i64 s'.wo, .bool s'.ov, .int .i64 s'.no, v] 34 (0, 0))) (ho : ∀ k, k ≠ p → k < w.heap.size → w'.heap[k]? = w.heap[k]?) : Kc w' p v s' := by
  refine ⟨hb, ?_, h.ne⟩
  rw [hp]
  obtain ⟨A, c, rfl, h2, h3⟩ := h.pg
  refine ⟨A, c, rfl, fun h0 => ?_, h3⟩
  obtain ⟨b, off, hA, hl, hc⟩ := h2 h0
  exact h2.keep (fun ad hA' => by
    rw [hA] at hA'
    obtain rfl := Option.some.inj hA'
    exact ho b (h.ne ⟨b, off, none⟩ c _ (by rw [hA])) hl) h0
theorem Kc.ext {w w' : World} {p : Nat} {v : Value} {s : CoS} (h : Kc w p v s) (hb : Below w.heap.size w w') : Kc w' p v s :=
  ⟨(hb.block _ h.lt).trans h.blk, h.pg.ext hb, h.ne⟩

/-- Is a place behind a program, or a Halt? -/
def endB (l : List Ins) (a : Int) : Bool := decide (a < 0) || decide ((l.length : Int) ≤ a) || (atI l a.toNat).op == 11

set_option maxRecDepth 100000 in
theorem ends_any (p : Nat) (v : Value) (s : CoS) (a : Int) (w : World) (h : Kc w p v s) : Calls Tryd.prog 49 #[.pointer (some ⟨p, 0, none⟩), .int .i64 a] w fun e w' => e = .returned (.bool (endB s.ps a)) ∧ w' = w := by
  have c8 := h.cells.2.2.2.2.2.2.2.2
  have hl := h.lt
  obtain ⟨A, c, rfl, hS, _⟩ := h.pg
  have HS := Lib.hid hS
  clear h hS
  by_cases h1 : a < 0
  · have e1 : decide (a < 0) = true := by simpa using h1
    have HE : Hid (endB s.ps a = true) := Lib.hid (by simp [endB, h1])
    rw [HE.out]
    go_enter Tryd.func49, Tryd.ntmps49
    go_wp2_with fail
    go_ret
    exact ⟨rfl, rfl⟩
  · have e1 : decide (a < 0) = false := by simpa using h1
    by_cases h2 : (s.ps.length : Int) ≤ a
    · have e2 : decide (a ≥ (s.ps.length : Int)) = true := by simpa using h2
      have HE : Hid (endB s.ps a = true) := Lib.hid (by simp [endB, h2])
      rw [HE.out]
      go_enter Tryd.func49, Tryd.ntmps49
      go_wp2_with fail
      go_ret
      exact ⟨rfl, rfl⟩
    · obtain ⟨k, rfl⟩ := Int.eq_ofNat_of_zero_le (show 0 ≤ a by omega)
      have hk : k < s.ps.length := by omega
      have e2 : decide ((k : Int) ≥ (s.ps.length : Int)) = false := by simp; omega
      obtain ⟨b, off, rfl, hb, hc⟩ := HS.out (by omega)
      have c0 := (hc k hk).1
      have HE : Hid (endB s.ps k = ((atI s.ps k).op == 11)) := Lib.hid (by simp [endB]; omega)
      rw [HE.out]
      clear hc
      generalize (atI s.ps k).op = o at c0 ⊢
      go_enter Tryd.func49, Tryd.ntmps49
      go_wp2_with fail
      go_ret
      exact ⟨rfl, rfl⟩

set_option maxRecDepth 100000 in
theorem turn_any (p : Nat) (v : Value) (s : CoS) (a : Int) (w : World) (h : Kc w p v s) : Calls Tryd.prog 46 #[.pointer (some ⟨p, 0, none⟩), .int .i64 a] w fun e w' => (∃ r, e = .returned r) ∧ Kc w' p v { s with a := a, ov := endB s.ps a } ∧ w.grownBy w' (some p) := by
  have c4 := h.cells.2.2.2.2.1
  have c6 := h.cells.2.2.2.2.2.2.1
  have hl := h.lt
  have hf := h.free
  have s1 := Joins.block_setCell (i := 4) h.blk (.int .i64 a)
  have H1 : Hid (Kc (w.setCell ⟨p, 4, none⟩ (.int .i64 a)) p v { s with a := a }) := Lib.hid (h.put (s' := { s with a := a }) rfl (by simpa using s1) (fun k hk _ => Below.heap_setCell _ _ _ _ hk))
  clear s1 h
  go_enter Tryd.func46, Tryd.ntmps46
  go_wp2_with fail
  refine (ends_any p v { s with a := a } a _ H1.out).mono ?_
  rintro e w1 ⟨rfl, hw⟩
  subst hw
  go_wp2_with fail
  go_end0
  have s2 := Joins.block_setCell (i := 6) H1.out.blk (.bool (endB s.ps a))
  refine ⟨⟨_, rfl⟩, H1.out.put (s' := { s with a := a, ov := endB s.ps a }) rfl (by simpa using s2) (fun k hk _ => Below.heap_setCell _ _ _ _ hk), ⟨rfl, rfl, rfl, by simp, fun k _ hk => (Below.heap_setCell _ _ _ _ (fun e => hk (by rw [e]))).trans (Below.heap_setCell _ _ _ _ (fun e => hk (by rw [e])))⟩⟩

end Go.Proofs.YtkobeajbiendlaaDoor
namespace Go.Proofs.YtkobeajbiendlaaDoor
open Go.RowKit

/-- Why there is no core. -/
def newE (no wo : Int) (l : List Ins) : Int := if no < 0 ∨ 4 ≤ no ∨ wo < 0 ∨ 3 < wo then 10 else (chkP l).2

theorem knew_no (no wo : Int) (A : Option Addr) (l : List Ins) (cap : Nat) (w : World) (h : SlN w A l) (hO : Ops w) (he : newE no wo l ≠ 0) : Calls Tryd.prog 15 #[.int .i64 no, .int .i64 wo, .slice A l.length cap] w fun e w' => e = .returned (.tuple #[.pointer none, .int .i64 (newE no wo l)]) ∧ Below w.heap.size w w' := by
  have H := Lib.hid h
  have HO := Lib.hid hO
  have HE := Lib.hid he
  clear h hO he
  by_cases h1 : no < 0
  · have e1 : decide (no < 0) = true := by simpa using h1
    have HN : Hid (newE no wo l = 10) := Lib.hid (by unfold newE; rw [if_pos (.inl h1)])
    rw [HN.out]
    go_enter Tryd.func15, Tryd.ntmps15
    go_wp2_with fail
    go_ret2
    exact ⟨rfl, Below.refl _ _⟩
  have e1 : decide (no < 0) = false := by simpa using h1
  by_cases h2 : 4 ≤ no
  · have e2 : decide (no ≥ 4) = true := by simpa using h2
    have HN : Hid (newE no wo l = 10) := Lib.hid (by unfold newE; rw [if_pos (.inr (.inl h2))])
    rw [HN.out]
    go_enter Tryd.func15, Tryd.ntmps15
    go_wp2_with fail
    go_ret2
    exact ⟨rfl, Below.refl _ _⟩
  have e2 : decide (no ≥ 4) = false := by simp; omega
  by_cases h3 : wo < 0
  · have e3 : decide (wo < 0) = true := by simpa using h3
    have HN : Hid (newE no wo l = 10) := Lib.hid (by unfold newE; rw [if_pos (.inr (.inr (.inl h3)))])
    rw [HN.out]
    go_enter Tryd.func15, Tryd.ntmps15
    go_wp2_with fail
    go_ret2
    exact ⟨rfl, Below.refl _ _⟩
  have e3 : decide (wo < 0) = false := by simpa using h3
  by_cases h4 : 3 < wo
  · have e4 : decide (wo > 3) = true := by simpa using h4
    have HN : Hid (newE no wo l = 10) := Lib.hid (by unfold newE; rw [if_pos (.inr (.inr (.inr h4)))])
    rw [HN.out]
    go_enter Tryd.func15, Tryd.ntmps15
    go_wp2_with fail
    go_ret2
    exact ⟨rfl, Below.refl _ _⟩
  have e4 : decide (wo > 3) = false := by simp; omega
  have HN : Hid (newE no wo l = (chkP l).2) := Lib.hid (by unfold newE; rw [if_neg (by omega)])
  have e5 : ((chkP l).2 != 0) = true := by have := HE.out; rw [HN.out] at this; simpa using this
  rw [HN.out]
  have hch := icheck_any A l cap w H.out HO.out
  generalize chkP l = cp at hch e5 ⊢
  have HC := Lib.hid hch
  clear hch HE HN
  go_enter Tryd.func15, Tryd.ntmps15
  go_wp2_with fail
  refine HC.out.mono ?_
  rintro e w1 ⟨rfl, hb⟩
  have HB := Lib.hid hb
  clear hb
  go_wp2_with fail
  go_ret2
  exact ⟨rfl, HB.out⟩

theorem chk_len {l : List Ins} (h : (chkP l).2 = 0) : l.length ≤ 32 := by
  unfold chkP at h
  split at h
  · cases h
  · omega

set_option maxRecDepth 100000 in
theorem knew_ok (no wo : Int) (A : Option Addr) (l : List Ins) (cap : Nat) (w : World) (h : SlN w A l) (hA : A = none → l.length = 0 ∧ cap = 0) (hO : Ops w) (he : newE no wo l = 0) : Calls Tryd.prog 15 #[.int .i64 no, .int .i64 wo, .slice A l.length cap] w fun e w' =>
    ∃ q v, e = .returned (.tuple #[.pointer (some ⟨q, 0, none⟩), .int .i64 0]) ∧ Kc w' q v ⟨fun _ => 0, 0, wo, endB l 0, no, l⟩ ∧ w.heap.size ≤ q ∧ (∀ g, v.ownBlock = some g → w.heap.size ≤ g ∧ g < q) ∧ Below w.heap.size w w' := by
  have H := Lib.hid h
  have HO := Lib.hid hO
  have HA := Lib.hid hA
  have hr : 0 ≤ no ∧ no < 4 ∧ 0 ≤ wo ∧ wo ≤ 3 := by
    unfold newE at he
    split at he
    · cases he
    · omega
  have hc0 : (chkP l).2 = 0 := by
    unfold newE at he
    split at he
    · cases he
    · exact he
  have hlen := chk_len hc0
  obtain ⟨r1, r2, r3, r4⟩ := hr
  have e1 : decide (no < 0) = false := by simp; omega
  have e2 : decide (no ≥ 4) = false := by simp; omega
  have e3 : decide (wo < 0) = false := by simp; omega
  have e4 : decide (wo > 3) = false := by simp; omega
  have hch := icheck_any A l cap w h hO
  rw [hc0] at hch
  generalize (chkP l).1 = cp at hch
  have HC := Lib.hid hch
  clear hch h hO hA he hc0
  go_enter Tryd.func15, Tryd.ntmps15
  go_wp2_with fail
  refine HC.out.mono ?_
  rintro e w1 ⟨rfl, hb⟩
  have HB := Lib.hid hb
  clear hb
  go_wp2_with fail
  refine (iclone_any A l cap w1 (H.out.ext HB.out) HA.out (by omega)).mono ?_
  rintro e w2 ⟨v, rfl, hP, hv, hb⟩
  have HP := Lib.hid hP
  have HV := Lib.hid hv
  have HB2 := Lib.hid (ext_trans HB.out hb)
  have HB12 := Lib.hid hb
  obtain ⟨A', c', rfl, _, _⟩ := hP
  clear hv hb
  go_wp2_with fail
  obtain ⟨W3, hW3⟩ : ∃ W3, W3 = w2.alloc (.cells #[.int .i64 0, .int .i64 0, .int .i64 0, .int .i64 0, .int .i64 0, .int .i64 wo, .bool false, .int .i64 no, .slice A' l.length c'] 34) := ⟨_, rfl⟩
  have hbk : W3.heap[w2.heap.size]? = some (.cells #[.int .i64 0, .int .i64 0, .int .i64 0, .int .i64 0, .int .i64 0, .int .i64 wo, .bool false, .int .i64 no, .slice A' l.length c'] 34 (0, 0)) := by rw [hW3]; exact alNew rfl
  have hb3 : Below w2.heap.size w2 W3 := by rw [hW3]; exact ext_alloc _ (Below.refl _ _)
  rw [← hW3]
  have hK : Kc W3 w2.heap.size (.slice A' l.length c') ⟨fun _ => 0, 0, wo, false, no, l⟩ := ⟨hbk, HP.out.ext hb3, fun ad c n e => by
    obtain ⟨rfl, _, _⟩ := Value.slice.inj e
    have := (HV.out ad.block rfl).2
    omega⟩
  clear hbk hW3
  have HK := Lib.hid hK
  have HB3 := Lib.hid (ext_trans HB2.out hb3)
  clear hK hb3
  refine (turn_any w2.heap.size _ _ 0 W3 HK.out).mono ?_
  rintro e w4 ⟨⟨r, rfl⟩, hk4, hg4⟩
  have HK4 := Lib.hid hk4
  have HB4 := Lib.hid (show Below w.heap.size w w4 from HB3.out.grown hg4 HB3.out.size (fun k e => by cases e; exact HB2.out.size))
  clear hk4 hg4
  go_wp2_with fail
  go_ret2
  exact ⟨_, _, rfl, HK4.out, HB2.out.size, fun g hg => ⟨Nat.le_trans HB.out.size (HV.out g hg).1, (HV.out g hg).2⟩, HB4.out⟩

/-- The next instruction. -/
theorem knext_nil (w : World) : Calls Tryd.prog 20 #[.pointer none] w fun e w' => e = .returned (.tuple #[.agg #[.int .i64 0, .int .i64 0, .int .i64 0, .int .i64 0], .bool false]) ∧ Below w.heap.size w w' := by
  go_enter Tryd.func20, Tryd.ntmps20
  go_wp2
  (try simp only [Exit.inBlock, Exit.then]); refine bodyPost_ret (by simp [results, Tryd.results20, go_sem]; try rfl) rfl ?_
  exact ⟨rfl, (by repeat (with_reducible first | exact Below.refl _ _ | assumption | (refine ext_next (by assumption) ?_) | apply ext_alloc | apply ext_past | apply ext_drew | apply ext_drewN))⟩
theorem knext_end (p : Nat) (v : Value) (s : CoS) (w : World) (h : Kc w p v s) (he : endB s.ps s.a = true) : Calls Tryd.prog 20 #[.pointer (some ⟨p, 0, none⟩)] w fun e w' => e = .returned (.tuple #[.agg #[.int .i64 0, .int .i64 0, .int .i64 0, .int .i64 0], .bool false]) ∧ Below w.heap.size w w' := by
  have c4 := h.cells.2.2.2.2.1
  have hl := h.lt
  have H := Lib.hid h
  have HE := Lib.hid he
  clear h he
  go_enter Tryd.func20, Tryd.ntmps20
  go_wp2_with fail
  refine (ends_any p v s s.a _ (H.out.ext (ext_alloc _ (Below.refl _ _)))).mono ?_
  rintro e w1 ⟨rfl, hw⟩
  subst hw
  rw [HE.out]
  go_wp2_with fail
  (try simp only [Exit.inBlock, Exit.then]); refine bodyPost_ret (by simp [results, Tryd.results20, go_sem]; try rfl) rfl ?_
  exact ⟨rfl, (by repeat (with_reducible first | exact Below.refl _ _ | assumption | (refine ext_next (by assumption) ?_) | apply ext_alloc | apply ext_past | apply ext_drew | apply ext_drewN))⟩

theorem endB_no {l : List Ins} {a : Int} (h : endB l a = false) : ∃ k : Nat, a = k ∧ k < l.length ∧ (atI l k).op ≠ 11 := by
  simp [endB] at h
  obtain ⟨⟨h1, h2⟩, h3⟩ := h
  exact ⟨a.toNat, by omega, by omega, h3⟩

set_option maxRecDepth 100000 in
theorem knext_ok (p : Nat) (v : Value) (s : CoS) (w : World) (h : Kc w p v s) (he : endB s.ps s.a = false) : Calls Tryd.prog 20 #[.pointer (some ⟨p, 0, none⟩)] w fun e w' => e = .returned (.tuple #[.agg #[.int .i64 (atI s.ps s.a.toNat).op, .int .i64 (atI s.ps s.a.toNat).a, .int .i64 (atI s.ps s.a.toNat).b, .int .i64 (atI s.ps s.a.toNat).c], .bool true]) ∧ Below w.heap.size w w' := by
  have c4 := h.cells.2.2.2.2.1
  have c8 := h.cells.2.2.2.2.2.2.2.2
  have hl := h.lt
  have H := Lib.hid h
  have HE := Lib.hid he
  obtain ⟨k, hk, hkl, _⟩ := endB_no he
  obtain ⟨A, c, rfl, hS, _⟩ := h.pg
  obtain ⟨b, off, rfl, hb, hc⟩ := hS (by omega)
  obtain ⟨o0, o1, o2, o3⟩ := hc k hkl
  have e : s.a.toNat = k := by omega
  rw [e]
  rw [hk] at c4
  generalize atI s.ps k = x at o0 o1 o2 o3 ⊢
  have HKA := Lib.hid hk
  clear h he hS hc e hk
  go_enter Tryd.func20, Tryd.ntmps20
  go_wp2_with fail
  have hen := ends_any p (.slice (some ⟨b, off, none⟩) s.ps.length c) s s.a _ (H.out.ext (ext_alloc (.cells #[.int .i64 0, .int .i64 0, .int .i64 0, .int .i64 0] 36) (Below.refl _ w)))
  rw [HE.out, HKA.out] at hen
  refine hen.mono ?_
  clear hen
  rintro e w1 ⟨rfl, hw⟩
  subst hw
  go_wp2_with fail
  go_region
  all_goals
    go_wp2_with fail
    (try simp only [Exit.inBlock, Exit.then]); refine bodyPost_ret (by simp [results, Tryd.results20, go_sem]; try rfl) rfl ?_
    exact ⟨rfl, (by repeat (with_reducible first | exact Below.refl _ _ | assumption | (refine ext_next (by assumption) ?_) | apply ext_alloc | apply ext_past | apply ext_drew | apply ext_drewN))⟩

end Go.Proofs.YtkobeajbiendlaaDoor
namespace Go.Proofs.YtkobeajbiendlaaDoor
open Go.RowKit

set_option maxRecDepth 100000 in
set_option maxHeartbeats 1000000 in
theorem kevent_any (p : Nat) (v : Value) (s : CoS) (x : Ins) (w : World) (h : Kc w p v s) : Calls Tryd.prog 48 #[.pointer (some ⟨p, 0, none⟩), .agg #[.int .i64 x.op, .int .i64 x.a, .int .i64 x.b, .int .i64 x.c]] w fun e w' => e = .returned (.agg #[.int .i64 s.no, .int .i64 s.a, .int .i64 x.op, .int .i64 s.wo, .int .i64 0, .int .i64 0, .int .i64 0]) ∧ Below w.heap.size w w' := by
  obtain ⟨_, _, _, _, c4, c5, _, c7, _⟩ := h.cells
  have hl := h.lt
  clear h
  go_enter Tryd.func48, Tryd.ntmps48
  go_wp2_with fail
  go_region
  all_goals
    go_wp2_with fail
    (try simp only [Exit.inBlock, Exit.then]); refine bodyPost_ret (by simp [results, Tryd.results48, go_sem]; try rfl) rfl ?_
    exact ⟨rfl, (by repeat (with_reducible first | exact Below.refl _ _ | assumption | (refine ext_next (by assumption) ?_) | apply ext_alloc | apply ext_past | apply ext_drew | apply ext_drewN))⟩

theorem ev_cells {W : World} {b : Nat} {x0 x1 x2 x3 x4 x5 x6 : Value} {t : TypeId} (h : W.heap[b]? = some (.cells #[x0, x1, x2, x3, x4, x5, x6] t (0, 0))) :
    W.cell? ⟨b, 0, none⟩ = some x0 ∧ W.cell? ⟨b, 1, none⟩ = some x1 ∧ W.cell? ⟨b, 2, none⟩ = some x2 ∧ W.cell? ⟨b, 3, none⟩ = some x3 ∧ W.cell? ⟨b, 4, none⟩ = some x4 ∧ W.cell? ⟨b, 5, none⟩ = some x5 ∧ W.cell? ⟨b, 6, none⟩ = some x6 ∧ (∀ i, W.frozen? ⟨b, i, none⟩ = false) ∧ b < W.heap.size := by
  refine ⟨?_, ?_, ?_, ?_, ?_, ?_, ?_, fun i => ?_, lt_of h⟩ <;> simp [World.cell?, World.frozen?, h]

/-- Seven stores. -/
def set7 (w : World) (b : Nat) (x0 x1 x2 x3 x4 x5 x6 : Value) : World := ((((((w.setCell ⟨b, 0, none⟩ x0).setCell ⟨b, 1, none⟩ x1).setCell ⟨b, 2, none⟩ x2).setCell ⟨b, 3, none⟩ x3).setCell ⟨b, 4, none⟩ x4).setCell ⟨b, 5, none⟩ x5).setCell ⟨b, 6, none⟩ x6
theorem set7_blk {w : World} {b : Nat} {y0 y1 y2 y3 y4 y5 y6 : Value} {t : TypeId} (x0 x1 x2 x3 x4 x5 x6 : Value) (h : w.heap[b]? = some (.cells #[y0, y1, y2, y3, y4, y5, y6] t (0, 0))) : (set7 w b x0 x1 x2 x3 x4 x5 x6).heap[b]? = some (.cells #[x0, x1, x2, x3, x4, x5, x6] t (0, 0)) := by
  have s0 := Joins.block_setCell (i := 0) h x0
  have s1 := Joins.block_setCell (i := 1) s0 x1
  have s2 := Joins.block_setCell (i := 2) s1 x2
  have s3 := Joins.block_setCell (i := 3) s2 x3
  have s4 := Joins.block_setCell (i := 4) s3 x4
  have s5 := Joins.block_setCell (i := 5) s4 x5
  have s6 := Joins.block_setCell (i := 6) s5 x6
  unfold set7
  simpa using s6
theorem sc_grown (w : World) (b i : Nat) (x : Value) : w.grownBy (w.setCell ⟨b, i, none⟩ x) (some b) := ⟨rfl, rfl, rfl, by simp, fun k _ hk => Below.heap_setCell _ _ _ _ (fun e => hk (by rw [e]))⟩
theorem gr_two {a b c : World} {r : Option Nat} (h : a.grownBy b r) (k : b.grownBy c r) : a.grownBy c r :=
  ⟨k.os.trans h.os, k.tape.trans h.tape, k.output.trans h.output, Nat.le_trans h.size k.size, fun q hq hn => (k.block q (Nat.lt_of_lt_of_le hq h.size) hn).trans (h.block q hq hn)⟩
theorem set7_grown (w : World) (b : Nat) (x0 x1 x2 x3 x4 x5 x6 : Value) : w.grownBy (set7 w b x0 x1 x2 x3 x4 x5 x6) (some b) :=
  gr_two (gr_two (gr_two (gr_two (gr_two (gr_two (sc_grown _ _ _ _) (sc_grown _ _ _ _)) (sc_grown _ _ _ _)) (sc_grown _ _ _ _)) (sc_grown _ _ _ _)) (sc_grown _ _ _ _)) (sc_grown _ _ _ _)

set_option maxRecDepth 100000 in
set_option maxHeartbeats 1000000 in
theorem klocal_end (p : Nat) (v : Value) (s : CoS) (w : World) (h : Kc w p v s) (he : endB s.ps s.a = true) : Calls Tryd.prog 19 #[.pointer (some ⟨p, 0, none⟩)] w fun e w' => e = .returned (.tuple #[.agg #[.int .i64 0, .int .i64 0, .int .i64 0, .int .i64 0, .int .i64 0, .int .i64 0, .int .i64 0], .bool false]) ∧ Below w.heap.size w w' := by
  have H := Lib.hid h
  have HE := Lib.hid he
  clear h he
  go_enter Tryd.func19, Tryd.ntmps19
  go_wp2_with fail
  refine (knext_end p v s _ (H.out.ext (ext_alloc _ (Below.refl _ _))) HE.out).mono ?_
  rintro e w1 ⟨rfl, hb⟩
  go_upto_if 14 with (fail)
  obtain ⟨W2, hW2⟩ : ∃ W2, W2 = w1.alloc (.cells #[.int .i64 0, .int .i64 0, .int .i64 0, .int .i64 0] 36) := ⟨_, rfl⟩
  have hbW : Below w1.heap.size w1 W2 := by rw [hW2]; exact ext_alloc _ (Below.refl _ _)
  have HB := Lib.hid (ext_trans (ext_alloc (.cells #[.int .i64 0, .int .i64 0, .int .i64 0, .int .i64 0, .int .i64 0, .int .i64 0, .int .i64 0] 42) (Below.refl _ w)) (ext_trans hb hbW))
  have hbx := (hbW.block w.heap.size (by have := hb.size; simp at this; omega)).trans ((hb.block w.heap.size (by simp)).trans (alNew rfl))
  have HBX := Lib.hid hbx
  obtain ⟨b0, b1, b2, b3, b4, b5, b6, bf, bl⟩ := ev_cells hbx
  rw [← hW2]
  clear hb hbx hbW hW2
  go_wp2_with fail
  obtain ⟨W3, hW3⟩ : ∃ W3, W3 = set7 W2 w.heap.size (.int .i64 0) (.int .i64 0) (.int .i64 0) (.int .i64 0) (.int .i64 0) (.int .i64 0) (.int .i64 0) := ⟨_, rfl⟩
  have hbk := set7_blk (.int .i64 0) (.int .i64 0) (.int .i64 0) (.int .i64 0) (.int .i64 0) (.int .i64 0) (.int .i64 0) HBX.out
  have hgr := set7_grown W2 w.heap.size (.int .i64 0) (.int .i64 0) (.int .i64 0) (.int .i64 0) (.int .i64 0) (.int .i64 0) (.int .i64 0)
  rw [← hW3] at hbk hgr
  unfold set7 at hW3
  rw [← hW3]
  obtain ⟨d0, d1, d2, d3, d4, d5, d6, df, dl⟩ := ev_cells hbk
  clear b0 b1 b2 b3 b4 b5 b6 bf bl
  (try simp only [Exit.inBlock, Exit.then]); refine bodyPost_ret (by simp [results, Tryd.results19, go_sem, d0, d1, d2, d3, d4, d5, d6]; try rfl) rfl ?_
  exact ⟨rfl, HB.out.grown hgr HB.out.size (fun k e => by cases e; exact Nat.le_refl _)⟩

end Go.Proofs.YtkobeajbiendlaaDoor
