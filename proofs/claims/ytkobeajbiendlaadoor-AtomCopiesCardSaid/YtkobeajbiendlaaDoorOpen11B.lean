/- What this text holds: worlds and lists of turns as arguments. No condition. -/
import Derived.Test.YtkobeajbiendlaaDoorOpn
import Derived.Test.YtkobeajbiendlaaDoorAtO
namespace Go.Proofs.YtkobeajbiendlaaDoor
open Go.ChangeShapes Go.WideShapes Go.ChangeAt Go.RowKit Go.Deep

/-- A list of turns in memory. -/
def atT (l : List (Int × Bool)) (i : Nat) : Int × Bool := l[i]?.getD (0, false)
def SlT (w : World) (A : Option Addr) (l : List (Int × Bool)) : Prop :=
  0 < l.length → ∃ b off, A = some ⟨b, off, none⟩ ∧ b < w.heap.size ∧ ∀ i, i < l.length → w.cell? ⟨b, off + i * 2, none⟩ = some (.int .i64 (atT l i).1) ∧ w.cell? ⟨b, off + i * 2 + 1, none⟩ = some (.bool (atT l i).2)
theorem SlT.ext {w w' : World} {A : Option Addr} {l : List (Int × Bool)} (h : SlT w A l) (hb : Below w.heap.size w w') : SlT w' A l := fun h0 => by
  obtain ⟨b, off, hA, hl, hc⟩ := h h0
  exact ⟨b, off, hA, Nat.lt_of_lt_of_le hl hb.size, fun i hi => ⟨(hb.cell (p := ⟨b, off + i * 2, none⟩) hl).trans (hc i hi).1, (hb.cell (p := ⟨b, off + i * 2 + 1, none⟩) hl).trans (hc i hi).2⟩⟩
section
variable {H : Type} {enc : TypeId × Value → H} {w : World} {base : Nat} {sp : Nat → Bool} {held : Bool}
set_option maxRecDepth 100000 in
theorem trod_slI {fuel : Nat} {cs : List Value} {x : DataW H × List MemPlace} (h : DataW.trod enc Tryd.prog w base sp held fuel 67 cs = some x) :
    ∃ (A : Option Addr) (cap : Nat) (l : List Int), cs = [.slice A l.length cap] ∧ SlI w A l := by
  obtain ⟨A, cap, l, hcs, _, _, _, hr⟩ := open_list (d := 5) (0 : Int) (fun (o : Int) es => es = [.int .i64 o]) Tryd.underlying67 (ts := [3]) (by kernel_rfl) (by kernel_rfl) (by decide) (fun es hl => by
    obtain ⟨k, h0, _⟩ := hl.int (i := 0) rfl Tryd.underlying3
    have hlen := hl.1
    match es, hlen with
    | [e0], _ =>
      simp at h0
      exact ⟨k, by simp [h0]⟩) h
  refine ⟨A, cap, l, hcs, fun h0 => ?_⟩
  obtain ⟨b, off, hA, hb, hi⟩ := hr h0
  refine ⟨b, off, hA, hb, fun i hil => ?_⟩
  obtain ⟨es, rfl, _, hc⟩ := hi i hil
  simpa using hc 0 (by decide)
set_option maxRecDepth 100000 in
theorem trod_slR {fuel : Nat} {cs : List Value} {x : DataW H × List MemPlace} (h : DataW.trod enc Tryd.prog w base sp held fuel 66 cs = some x) :
    ∃ (A : Option Addr) (cap : Nat) (l : List Pr), cs = [.slice A l.length cap] ∧ SlR w A l ∧ l.length ≤ maxLen := by
  obtain ⟨A, cap, l, hcs, hlc, hcm, _, hr⟩ := open_list (d := 5) Pr.none (fun (o : Pr) es => es = [.slice o.A o.ps.length o.c] ∧ SlN w o.A o.ps ∧ (o.A = none → o.ps.length = 0 ∧ o.c = 0)) Tryd.underlying66 (ts := [22]) (by kernel_rfl) (by kernel_rfl) (by decide) (fun es hl => by
    obtain ⟨c, n, y, h2, h3⟩ := hl.2 0 22 rfl
    obtain ⟨A, cap, ys, h4, h5, h6, _⟩ := trod_slIns h3
    have hlen := hl.1
    match es, hlen with
    | [e0], _ =>
      simp at h2 h4
      exact ⟨⟨A, cap, ys⟩, by simp [h2, h4], h5, h6⟩) h
  refine ⟨A, cap, l, hcs, ⟨fun h0 => ?_, fun i hil => ?_⟩, Nat.le_trans hlc hcm⟩
  · obtain ⟨b, off, hA, hb, hi⟩ := hr h0
    refine ⟨b, off, hA, hb, fun i hil => ?_⟩
    obtain ⟨es, ⟨rfl, _⟩, _, hc⟩ := hi i hil
    simpa [atR] using hc 0 (by decide)
  · obtain ⟨b, off, hA, hb, hi⟩ := hr (by omega)
    obtain ⟨es, ⟨_, h1, h2⟩, _⟩ := hi i hil
    exact ⟨h1, h2⟩
set_option maxRecDepth 100000 in
theorem trod_slT {fuel : Nat} {cs : List Value} {x : DataW H × List MemPlace} (h : DataW.trod enc Tryd.prog w base sp held fuel 70 cs = some x) :
    ∃ (A : Option Addr) (cap : Nat) (l : List (Int × Bool)), cs = [.slice A l.length cap] ∧ SlT w A l := by
  obtain ⟨A, cap, l, hcs, _, _, _, hr⟩ := open_list (d := 5) ((0, false) : Int × Bool) (fun (o : Int × Bool) es => es = [.int .i64 o.1, .bool o.2]) Tryd.underlying70 (ts := [3, 4]) (by kernel_rfl) (by kernel_rfl) (by decide) (fun es hl => by
    obtain ⟨k, h0, _⟩ := hl.int (i := 0) rfl Tryd.underlying3
    obtain ⟨b, h1⟩ := hl.bool (i := 1) rfl Tryd.underlying4
    have hlen := hl.1
    match es, hlen with
    | [e0, e1], _ =>
      simp at h0 h1
      exact ⟨(k, b), by simp [h0, h1]⟩) h
  refine ⟨A, cap, l, hcs, fun h0 => ?_⟩
  obtain ⟨b, off, hA, hb, hi⟩ := hr h0
  refine ⟨b, off, hA, hb, fun i hil => ?_⟩
  obtain ⟨es, rfl, _, hc⟩ := hi i hil
  exact ⟨by simpa [atT] using hc 0 (by decide), by simpa [atT] using hc 1 (by decide)⟩
set_option maxRecDepth 100000 in
theorem open_slT {r : Reach} {b0 : Nat} {v : Value} {x : DataW H} {p : List MemPlace}
    (hv : Value.okWide Tryd.prog w r b0 70 v) (h : DataW.Trod enc Tryd.prog w base sp held 70 v x p) :
    ∃ (A : Option Addr) (cap : Nat) (l : List (Int × Bool)), v = .slice A l.length cap ∧ SlT w A l := by
  obtain ⟨a0, len0, cap0, rfl⟩ := okWide_slice Tryd.underlying70 hv
  obtain ⟨fuel, hf⟩ := h
  have hf' : DataW.trod enc Tryd.prog w base sp held fuel 70 [.slice a0 len0 cap0] = some (x, p) := hf
  obtain ⟨A, cap, l, hcs, h1⟩ := trod_slT hf'
  simp only [List.cons.injEq, and_true] at hcs
  exact ⟨A, cap, l, hcs, h1⟩
set_option maxRecDepth 100000 in
theorem open_slI11 {r : Reach} {b0 : Nat} {v : Value} {x : DataW H} {p : List MemPlace}
    (hv : Value.okWide Tryd.prog w r b0 67 v) (h : DataW.Trod enc Tryd.prog w base sp held 67 v x p) :
    ∃ (A : Option Addr) (cap : Nat) (l : List Int), v = .slice A l.length cap ∧ SlI w A l := by
  obtain ⟨a0, len0, cap0, rfl⟩ := okWide_slice Tryd.underlying67 hv
  obtain ⟨fuel, hf⟩ := h
  have hf' : DataW.trod enc Tryd.prog w base sp held fuel 67 [.slice a0 len0 cap0] = some (x, p) := hf
  obtain ⟨A, cap, l, hcs, h1⟩ := trod_slI hf'
  simp only [List.cons.injEq, and_true] at hcs
  exact ⟨A, cap, l, hcs, h1⟩
set_option maxRecDepth 100000 in
theorem open_world {r : Reach} {b0 : Nat} {v : Value} {x : DataW H} {p : List MemPlace}
    (hv : Value.okWide Tryd.prog w r b0 69 v) (h : DataW.Trod enc Tryd.prog w base sp held 69 v x p) :
    ∃ (c : Cfg) (A B C D : Option Addr) (l : List Pr) (ws os ds : List Int) (c1 c2 c3 c4 : Nat), v = .agg #[.int .i64 c.co, .int .i64 c.gr, .int .i64 c.se, .int .i64 c.wa, .int .i64 c.de, .int .i64 c.en, .int .i64 c.ba, .slice A l.length c1, .slice B ws.length c2, .slice C os.length c3, .slice D ds.length c4] ∧ SlR w A l ∧ l.length ≤ maxLen ∧ SlI w B ws ∧ SlI w C os ∧ SlI w D ds := by
  obtain ⟨cs, rfl, hl⟩ := open_leafs (d := 5) (ts := [3, 3, 3, 3, 3, 3, 3, 66, 67, 67, 67]) (by kernel_rfl) ⟨_, Tryd.underlying69, trivial⟩ hv h
  obtain ⟨l⟩ := cs
  obtain ⟨a0, h0, _⟩ := hl.int (i := 0) rfl Tryd.underlying3
  obtain ⟨a1, h1, _⟩ := hl.int (i := 1) rfl Tryd.underlying3
  obtain ⟨a2, h2, _⟩ := hl.int (i := 2) rfl Tryd.underlying3
  obtain ⟨a3, h3, _⟩ := hl.int (i := 3) rfl Tryd.underlying3
  obtain ⟨a4, h4, _⟩ := hl.int (i := 4) rfl Tryd.underlying3
  obtain ⟨a5, h5, _⟩ := hl.int (i := 5) rfl Tryd.underlying3
  obtain ⟨a6, h6, _⟩ := hl.int (i := 6) rfl Tryd.underlying3
  obtain ⟨v7, n7, y7, h7, k7⟩ := hl.2 7 66 rfl
  obtain ⟨v8, n8, y8, h8, k8⟩ := hl.2 8 67 rfl
  obtain ⟨v9, n9, y9, h9, k9⟩ := hl.2 9 67 rfl
  obtain ⟨v10, n10, y10, h10, k10⟩ := hl.2 10 67 rfl
  obtain ⟨A, c1, ps, e7, s7, m7⟩ := trod_slR k7
  obtain ⟨B, c2, ws, e8, s8⟩ := trod_slI k8
  obtain ⟨C, c3, os, e9, s9⟩ := trod_slI k9
  obtain ⟨D, c4, ds, e10, s10⟩ := trod_slI k10
  have hlen := hl.1
  match l, hlen with
  | [x0, x1, x2, x3, x4, x5, x6, x7, x8, x9, x10], _ =>
    simp at h0 h1 h2 h3 h4 h5 h6 h7 h8 h9 h10 e7 e8 e9 e10
    exact ⟨⟨a0, a1, a2, a3, a4, a5, a6⟩, A, B, C, D, ps, ws, os, ds, c1, c2, c3, c4, by simp [h0, h1, h2, h3, h4, h5, h6, h7, h8, h9, h10, e7, e8, e9, e10], s7, m7, s8, s9, s10⟩
end
end Go.Proofs.YtkobeajbiendlaaDoor
