/- What this text holds: a monitor in memory, and in plain words. No condition. -/
import Derived.Test.YtjggnhcdnfmmeaaJdJ
import Derived.Test.YtjggnhcdnfmmeaaTbl
import Derived.Lib.SlKeysI
import Derived.Maps.OwnSet
namespace Go.Proofs.Ytjggnhcdnfmmeaa
open Go.RowKit Go.Maps Go.ChangeMaps Go.MapKept Go.WideShapes

/-- A call. -/
structure Ak where
  co : Int
  wo : Int
  ca : Int
  gr : Int
  to : Int
  deriving DecidableEq
/-- A call that runs. -/
structure Ru where
  a : Ak
  th : Int
  sc : Bool
  ph : Int
  w : Nat → Bool
def Ak.val (a : Ak) : Value := .agg #[.int .i64 a.co, .int .i64 a.wo, .int .i64 a.ca, .int .i64 a.gr, .int .i64 a.to]
def Ru.cells (r : Ru) : List Value := [.int .i64 r.a.co, .int .i64 r.a.wo, .int .i64 r.a.ca, .int .i64 r.a.gr, .int .i64 r.a.to, .int .i64 r.th, .bool r.sc, .int .i64 r.ph, .bool (r.w 0), .bool (r.w 1), .bool (r.w 2), .bool (r.w 3)]
def Ru.val (r : Ru) : Value := .agg #[.int .i64 r.a.co, .int .i64 r.a.wo, .int .i64 r.a.ca, .int .i64 r.a.gr, .int .i64 r.a.to, .int .i64 r.th, .bool r.sc, .int .i64 r.ph, .bool (r.w 0), .bool (r.w 1), .bool (r.w 2), .bool (r.w 3)]
def Ru.zero : Ru := ⟨⟨0, 0, 0, 0, 0⟩, 0, false, 0, fun _ => false⟩
def ruO (o : Option Ru) : Ru := o.getD Ru.zero
/-- A map's value is told as it stands. -/
def RV (v : Value) : Option (DataW Value × List MemPlace) := some (.held v, [])
def updI {α : Type} (F : Int → Option α) (k : Int) (x : Option α) : Int → Option α := fun i => if i = k then x else F i
theorem updI_same {α : Type} (F : Int → Option α) (k : Int) (x : Option α) : updI F k x k = x := by simp [updI]
theorem updI_ne {α : Type} (F : Int → Option α) {k i : Int} (x : Option α) (h : i ≠ k) : updI F k x i = F i := by simp [updI, h]

theorem keyed_int : Keyed Try.prog 3 := int_keyed Try.underlying3
theorem wf_small {k : Int} (h0 : 0 ≤ k) (h1 : k ≤ 1000000) : (Lit.int .i64 k).wf = true := by
  simp [Lit.wf, IntKind.min, IntKind.max, IntKind.signed, IntKind.bits]
  omega
theorem key_int {k : Int} (h : (Lit.int .i64 k).wf = true) : keyOf Try.prog 3 (.int .i64 k) = some (.int .i64 k) := keyOf_int_mk Try.underlying3 h
theorem zero_run (w : World) : (zeroValue 114).run Try.prog w = .ok Ru.zero.val w := by kernel_rfl

/-- The map of the calls that run. -/
def Mm (w : World) (b M : Nat) (F : Int → Option Ru) : Prop :=
  ∃ D : DataW Value, w.ownsMap Try.prog 3 RV b M D ∧ ∀ k : Int, D.atKey (.int .i64 k) (.held Ru.zero.val) = .held (ruO (F k)).val ∧ has D (.int .i64 k) = (F k).isSome
section
variable {w w' : World} {b M : Nat} {F : Int → Option Ru}
theorem Mm.lt (h : Mm w b M F) : b < w.heap.size := by obtain ⟨D, h, _⟩ := h; exact h.lt
theorem Mm.mono (h : Mm w b M F) {M' : Nat} (hm : M ≤ M') : Mm w b M' F := by obtain ⟨D, h, h2⟩ := h; exact ⟨D, h.mono hm, h2⟩
theorem Mm.block (h : Mm w b M F) (hb : w'.heap[b]? = w.heap[b]?) : Mm w' b M F := by
  obtain ⟨D, ⟨es, clock, h1, h2⟩, h3⟩ := h
  exact ⟨D, ⟨es, clock, hb.trans h1, h2⟩, h3⟩
theorem Mm.look (h : Mm w b M F) {k : Int} (hk : (Lit.int .i64 k).wf = true) : (Instr.lookup 74 (.map (some b)) (.int .i64 k) false).run Try.prog w = .ok (ruO (F k)).val w := by
  obtain ⟨D, h1, h2⟩ := h
  obtain ⟨v, ps, hr, hv⟩ := h1.lookup keyed_int Try.underlying74 (zero_run w) (zd := .held Ru.zero.val) (zp := []) rfl (key_int hk)
  rw [(h2 k).1] at hv
  unfold RV at hv
  simp only [Option.some.injEq, Prod.mk.injEq, DataW.held.injEq] at hv
  rw [hr, hv.1]
theorem Mm.made (w : World) : Mm (w.alloc (.map #[] 0)) w.heap.size 0 (fun _ => none) := by
  refine ⟨_, World.ownsMap_made w _ _ _, fun k => ⟨rfl, rfl⟩⟩
theorem Mm.put {D : DataW Value} (r : Ru) (k : Int) (hD : w.ownsMap Try.prog 3 RV b M D) (hF : ∀ k : Int, D.atKey (.int .i64 k) (.held Ru.zero.val) = .held (ruO (F k)).val ∧ has D (.int .i64 k) = (F k).isSome)
    (h2 : w'.ownsMap Try.prog 3 RV b (M + 1) (D.put (.int .i64 k) (.held r.val))) : Mm w' b (M + 1) (updI F k (some r)) := by
  refine ⟨_, h2, fun i => ?_⟩
  by_cases e : i = k
  · subst e
    rw [updI_same]
    exact ⟨atKey_put_same hD.isMap (show WideAt.IsKeyLit (.int .i64 i) from trivial) _ _, has_put_same hD.isMap (show WideAt.IsKeyLit (.int .i64 i) from trivial) _⟩
  · rw [updI_ne _ _ e]
    have hne : (Lit.int .i64 i) ≠ Lit.int .i64 k := fun h => e (by cases h; rfl)
    rw [atKey_put_other hne, has_put_other hne]
    exact hF i
theorem Mm.del {D : DataW Value} (k : Int) (hF : ∀ k : Int, D.atKey (.int .i64 k) (.held Ru.zero.val) = .held (ruO (F k)).val ∧ has D (.int .i64 k) = (F k).isSome)
    (h2 : w'.ownsMap Try.prog 3 RV b M (D.del (.int .i64 k))) : Mm w' b M (updI F k none) := by
  refine ⟨_, h2, fun i => ?_⟩
  by_cases e : i = k
  · subst e
    rw [updI_same]
    exact ⟨atKey_del_same _, has_del_same⟩
  · rw [updI_ne _ _ e]
    have hne : (Lit.int .i64 i) ≠ Lit.int .i64 k := fun h => e (by cases h; rfl)
    rw [atKey_del_other hne, has_del_other hne]
    exact hF i
theorem mem_keys {D : DataW Value} (h : w.ownsMap Try.prog 3 RV b M D) (x : Int) : x ∈ intKeys D ↔ has D (.int .i64 x) = true := by
  obtain ⟨es, clock, hb, Fi, hs, rfl⟩ := h
  have hk : ∀ p ∈ (es.toList.map (Go.WideElems.rg Try.prog 3 RV)).foldr DataW.insert [], ∃ x, p.1 = .int .i64 x := fun p hp => by
    have h1 := fit_keys Fi p ((sorted_perm _).mem_iff.1 hp)
    obtain ⟨v, hv⟩ := h1
    obtain ⟨x, _, hx, _⟩ := keyOf_i64 Try.underlying3 hv
    exact ⟨x, hx⟩
  generalize (es.toList.map (Go.WideElems.rg Try.prog 3 RV)).foldr DataW.insert [] = E at hk
  rw [has_eq, List.any_eq_true]
  show x ∈ E.map (fun p => intOf p.1) ↔ _
  rw [List.mem_map]
  constructor
  · rintro ⟨p, hp, rfl⟩
    obtain ⟨a, ha⟩ := hk p hp
    exact ⟨p, hp, by rw [ha]; simp [Lit.sameKey, intOf]⟩
  · rintro ⟨p, hp, hs⟩
    obtain ⟨a, ha⟩ := hk p hp
    rw [ha] at hs
    exact ⟨p, hp, by rw [ha]; simpa [Lit.sameKey, intOf] using hs⟩
end

/-- What lies outside of two blocks lies as it lay. -/
structure Gt (w w' : World) (g b : Nat) : Prop where
  os : w'.os = w.os
  tape : w'.tape = w.tape
  output : w'.output = w.output
  size : w.heap.size ≤ w'.heap.size
  block : ∀ k, k < w.heap.size → k ≠ g → k ≠ b → w'.heap[k]? = w.heap[k]?
section
variable {w w' w2 : World} {g b : Nat}
theorem Gt.of_below (h : Below w.heap.size w w') : Gt w w' g b := ⟨h.os, h.tape, h.output, h.size, fun k hk _ _ => h.block k hk⟩
theorem Gt.trans (h : Gt w w' g b) (k : Gt w' w2 g b) : Gt w w2 g b := ⟨k.os.trans h.os, k.tape.trans h.tape, k.output.trans h.output, Nat.le_trans h.size k.size, fun i hi h1 h2 => (k.block i (Nat.lt_of_lt_of_le hi h.size) h1 h2).trans (h.block i hi h1 h2)⟩
theorem Gt.of_grown {r : Nat} (h : w.grownBy w' (some r)) (hr : r = g ∨ r = b) : Gt w w' g b := ⟨h.os, h.tape, h.output, h.size, fun k hk h1 h2 => h.block k hk (fun e => by cases e; rcases hr with rfl | rfl <;> contradiction)⟩
theorem Gt.below {W : World} (h : Gt w w' g b) (hb : Below W.heap.size W w) (h1 : W.heap.size ≤ g) (h2 : W.heap.size ≤ b) : Below W.heap.size W w' :=
  ⟨h.os.trans hb.os, h.tape.trans hb.tape, h.output.trans hb.output, Nat.le_trans hb.size h.size, fun k hk => (h.block k (Nat.lt_of_lt_of_le hk hb.size) (by omega) (by omega)).trans (hb.block k hk)⟩
end

/-- A monitor's state. -/
structure Ms where
  es : List En
  F : Int → Option Ru
def busyC (F : Int → Option Ru) (co : Int) : Bool := (List.range 16).any fun k => match F k with | some r => r.a.co == co | none => false
def Ms.call (n : Int) (s : Ms) (a : Ak) : Int × Ms :=
  if a.co < 0 ∨ n ≤ a.co then (1, s)
  else if a.gr < 0 ∨ s.es.length ≤ a.gr then (10, s)
  else if (s.F a.gr).isSome then (17, s)
  else if busyC s.F a.co then (13, s)
  else if (judge a.ca a.wo (atE s.es a.gr.toNat).1 a.to).2.2 ≠ 0 then ((judge a.ca a.wo (atE s.es a.gr.toNat).1 a.to).2.2, s)
  else (0, ⟨s.es.set a.gr.toNat ((atE s.es a.gr.toNat).1, true), updI s.F a.gr (some ⟨a, (judge a.ca a.wo (atE s.es a.gr.toNat).1 a.to).1, (judge a.ca a.wo (atE s.es a.gr.toNat).1 a.to).2.1, 1, fun i => decide ((i : Int) < n)⟩)⟩)
def noneW (w : Nat → Bool) : Bool := !(w 0 || w 1 || w 2 || w 3)
def Ru.clear (r : Ru) (j : Nat) : Ru := { r with w := fun i => if i = j then false else r.w i }
def Ru.drop (r : Ru) (j : Nat) : Ru := if noneW (r.clear j).w then { r.clear j with ph := 2 } else r.clear j
def Ms.drop (n : Int) (s : Ms) (g co : Int) : Bool × Int × Ms :=
  if g < 0 ∨ s.es.length ≤ g then (false, 10, s)
  else if (ruO (s.F g)).ph ≠ 1 then (false, 16, s)
  else if co < 0 ∨ n ≤ co ∨ (ruO (s.F g)).w co.toNat = false then (false, 12, s)
  else (noneW ((ruO (s.F g)).clear co.toNat).w, 0, ⟨s.es, updI s.F g (some ((ruO (s.F g)).drop co.toNat))⟩)
/-- What came of a call. -/
structure Td where
  a : Ak
  th : Int
  sc : Bool
  deriving DecidableEq
def Td.zero : Td := ⟨⟨0, 0, 0, 0, 0⟩, 0, false⟩
def Td.val (t : Td) : Value := .agg #[.int .i64 t.a.co, .int .i64 t.a.wo, .int .i64 t.a.ca, .int .i64 t.a.gr, .int .i64 t.a.to, .int .i64 t.th, .bool t.sc]
def Ms.swept (s : Ms) (g : Int) : Td × Int × Ms :=
  if g < 0 ∨ s.es.length ≤ g then (Td.zero, 10, s)
  else if (ruO (s.F g)).ph ≠ 2 then (Td.zero, 16, s)
  else (⟨(ruO (s.F g)).a, (ruO (s.F g)).th, (ruO (s.F g)).sc⟩, 0, ⟨s.es.set g.toNat ((ruO (s.F g)).th, false), updI s.F g none⟩)
/-- What holds of each state. -/
structure Ms.ok (s : Ms) : Prop where
  len : 1 ≤ s.es.length ∧ s.es.length ≤ 16
  own : ∀ i, i < s.es.length → ownB (atE s.es i).1 = true
  run : ∀ k r, s.F k = some r → 0 ≤ k ∧ k < s.es.length ∧ r.a.gr = k ∧ (r.ph = 1 ∨ r.ph = 2) ∧ ownB r.th = true
/-- A monitor in memory. -/
structure Mn (w : World) (B p t g b : Nat) (n : Int) (M : Nat) (s : Ms) : Prop where
  ok : s.ok
  hn : 0 ≤ n ∧ n ≤ 4
  box : w.heap[p]? = some (.cells #[.pointer (some ⟨t, 0, none⟩), .int .i64 n, .map (some b)] 76 (0, 0))
  tb : Tb w t g s.es
  mp : Mm w b M s.F
  ne : p ≠ t ∧ p ≠ g ∧ p ≠ b ∧ t ≠ b ∧ g ≠ b
  lo : B ≤ p ∧ B ≤ t ∧ B ≤ g ∧ B ≤ b
section
variable {w w' : World} {B p t g b M : Nat} {n : Int} {s s' : Ms}
theorem Mn.keep (h : Mn w B p t g b n M s) (hs : w.heap.size ≤ w'.heap.size) (h1 : w'.heap[p]? = w.heap[p]?) (h2 : w'.heap[t]? = w.heap[t]?) (h3 : w'.heap[g]? = w.heap[g]?) (h4 : w'.heap[b]? = w.heap[b]?) : Mn w' B p t g b n M s :=
  ⟨h.ok, h.hn, h1.trans h.box, h.tb.of_blocks hs h2 h3, h.mp.block h4, h.ne, h.lo⟩
theorem Mn.lt (h : Mn w B p t g b n M s) : p < w.heap.size ∧ t < w.heap.size ∧ g < w.heap.size ∧ b < w.heap.size := ⟨lt_of h.box, h.tb.pl, h.tb.gl, h.mp.lt⟩
theorem Mn.ext (h : Mn w B p t g b n M s) (hb : Below w.heap.size w w') : Mn w' B p t g b n M s :=
  h.keep hb.size (hb.block _ h.lt.1) (hb.block _ h.lt.2.1) (hb.block _ h.lt.2.2.1) (hb.block _ h.lt.2.2.2)
theorem Mn.mono (h : Mn w B p t g b n M s) {M' : Nat} (hm : M ≤ M') : Mn w B p t g b n M' s := ⟨h.ok, h.hn, h.box, h.tb, h.mp.mono hm, h.ne, h.lo⟩
/-- The other monitor's blocks alone were turned. -/
theorem Mn.far (h : Mn w B p t g b n M s) {g' b' : Nat} (k : Gt w w' g' b') (h1 : ∀ x, x = p ∨ x = t ∨ x = g ∨ x = b → x ≠ g' ∧ x ≠ b') : Mn w' B p t g b n M s :=
  h.keep k.size (k.block _ h.lt.1 (h1 p (.inl rfl)).1 (h1 p (.inl rfl)).2) (k.block _ h.lt.2.1 (h1 t (.inr (.inl rfl))).1 (h1 t (.inr (.inl rfl))).2) (k.block _ h.lt.2.2.1 (h1 g (.inr (.inr (.inl rfl)))).1 (h1 g (.inr (.inr (.inl rfl)))).2) (k.block _ h.lt.2.2.2 (h1 b (.inr (.inr (.inr rfl)))).1 (h1 b (.inr (.inr (.inr rfl)))).2)
theorem Mn.cells (h : Mn w B p t g b n M s) : w.cell? ⟨p, 0, none⟩ = some (.pointer (some ⟨t, 0, none⟩)) ∧ w.cell? ⟨p, 1, none⟩ = some (.int .i64 n) ∧ w.cell? ⟨p, 2, none⟩ = some (.map (some b)) := by
  simp [World.cell?, h.box]
end

end Go.Proofs.Ytjggnhcdnfmmeaa
