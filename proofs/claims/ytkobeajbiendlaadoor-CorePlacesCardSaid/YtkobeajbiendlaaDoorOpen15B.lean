/- What this text holds: a job as an argument. No condition. -/
import Derived.Test.YtkobeajbiendlaaDoorOpn
namespace Go.Proofs.YtkobeajbiendlaaDoor
open Go.ChangeShapes Go.WideShapes Go.ChangeAt Go.RowKit Go.Deep

section
variable {H : Type} {enc : TypeId × Value → H} {w : World} {base : Nat} {sp : Nat → Bool} {held : Bool}
set_option maxRecDepth 100000 in
theorem open_job {r : Reach} {b0 : Nat} {v : Value} {x : DataW H} {p : List MemPlace}
    (hv : Value.okWide Tryd.prog w r b0 99 v) (h : DataW.Trod enc Tryd.prog w base sp held 99 v x p) :
    ∃ (A : Option Addr) (l : List Ins) (c1 : Nat) (wo o0 o1 d0 d1 d2 d3 d4 d5 d6 d7 : Int), v = .agg #[.slice A l.length c1, .int .i64 wo, .int .i64 o0, .int .i64 o1, .int .i64 d0, .int .i64 d1, .int .i64 d2, .int .i64 d3, .int .i64 d4, .int .i64 d5, .int .i64 d6, .int .i64 d7] ∧ SlN w A l ∧ (A = none → l.length = 0 ∧ c1 = 0) := by
  obtain ⟨cs, rfl, hl⟩ := open_leafs (d := 5) (ts := [22, 3, 3, 3, 3, 3, 3, 3, 3, 3, 3, 3]) (by kernel_rfl) ⟨_, Tryd.underlying99, trivial⟩ hv h
  obtain ⟨l⟩ := cs
  obtain ⟨v0, n0, y0, h0, k0⟩ := hl.2 0 22 rfl
  obtain ⟨A, c1, ps, e0, s0, m0, _⟩ := trod_slIns k0
  obtain ⟨a1, h1, _⟩ := hl.int (i := 1) rfl Tryd.underlying3
  obtain ⟨a2, h2, _⟩ := hl.int (i := 2) rfl Tryd.underlying3
  obtain ⟨a3, h3, _⟩ := hl.int (i := 3) rfl Tryd.underlying3
  obtain ⟨a4, h4, _⟩ := hl.int (i := 4) rfl Tryd.underlying3
  obtain ⟨a5, h5, _⟩ := hl.int (i := 5) rfl Tryd.underlying3
  obtain ⟨a6, h6, _⟩ := hl.int (i := 6) rfl Tryd.underlying3
  obtain ⟨a7, h7, _⟩ := hl.int (i := 7) rfl Tryd.underlying3
  obtain ⟨a8, h8, _⟩ := hl.int (i := 8) rfl Tryd.underlying3
  obtain ⟨a9, h9, _⟩ := hl.int (i := 9) rfl Tryd.underlying3
  obtain ⟨a10, h10, _⟩ := hl.int (i := 10) rfl Tryd.underlying3
  obtain ⟨a11, h11, _⟩ := hl.int (i := 11) rfl Tryd.underlying3
  have hlen := hl.1
  match l, hlen with
  | [x0, x1, x2, x3, x4, x5, x6, x7, x8, x9, x10, x11], _ =>
    simp at h0 h1 h2 h3 h4 h5 h6 h7 h8 h9 h10 h11 e0
    exact ⟨A, ps, c1, a1, a2, a3, a4, a5, a6, a7, a8, a9, a10, a11, by simp [h0, h1, h2, h3, h4, h5, h6, h7, h8, h9, h10, h11, e0], s0, m0⟩
end
end Go.Proofs.YtkobeajbiendlaaDoor
