/- What this text holds: programs as arguments; the table of ops as its initialiser lays it. No condition. -/
import Derived.Test.YtkobeajbiendlaaDoorOpenL
import Derived.Test.YtkobeajbiendlaaDoorOpenI
import Derived.Test.YtkobeajbiendlaaDoorTab
import Derived.Test.YtkobeajbiendlaaDoorIsaB
import Derived.Test.YtkobeajbiendlaaDoorCards
namespace Go.Proofs.YtkobeajbiendlaaDoor
open Go.ChangeShapes Go.WideShapes Go.ChangeAt Go.RowKit Go.Deep

theorem gOps : Tryd.prog.globalNamed "donjon/isa.ops" = some 0 := by kernel_rfl
theorem gOpsType : (Tryd.prog.globals[(0 : Nat)]?).map (·.type) = some 165 := by kernel_rfl
theorem scOps : scalarT Tryd.prog 5 165 = true := by kernel_rfl
theorem flatOps : (flatV 5 (Rows.laid_donjon_isa_ops : DataW Unit)).toArray = #[.string ⟨#[]⟩, .int .i64 0, .int .i64 0, .int .i64 0, .string ⟨#[115, 101, 116]⟩, .int .i64 1, .int .i64 2, .int .i64 0, .string ⟨#[97, 100, 100]⟩, .int .i64 1, .int .i64 1, .int .i64 1, .string ⟨#[108, 111, 97, 100]⟩, .int .i64 1, .int .i64 1, .int .i64 0, .string ⟨#[115, 116, 111, 114, 101]⟩, .int .i64 1, .int .i64 1, .int .i64 0, .string ⟨#[115, 119, 97, 112]⟩, .int .i64 1, .int .i64 1, .int .i64 0, .string ⟨#[102, 101, 110, 99, 101]⟩, .int .i64 0, .int .i64 0, .int .i64 0, .string ⟨#[119, 111, 114, 108, 100]⟩, .int .i64 3, .int .i64 0, .int .i64 0, .string ⟨#[99, 97, 108, 108]⟩, .int .i64 4, .int .i64 1, .int .i64 1, .string ⟨#[106, 117, 109, 112]⟩, .int .i64 5, .int .i64 0, .int .i64 0, .string ⟨#[122, 101, 114, 111]⟩, .int .i64 1, .int .i64 5, .int .i64 0, .string ⟨#[104, 97, 108, 116]⟩, .int .i64 0, .int .i64 0, .int .i64 0] := by kernel_rfl
theorem ops_of_one {W : World} (h : laidMetH Tryd.prog [("donjon/isa.ops", Rows.laid_donjon_isa_ops)] W) : Ops W := by
  obtain ⟨t, fr, hh⟩ := laid_cells (rest := []) gOps gOpsType scOps h
  exact ⟨t, fr, by rw [hh, flatOps]⟩

section
variable {H : Type} {enc : TypeId × Value → H} {w : World} {base : Nat} {sp : Nat → Bool} {held : Bool}
set_option maxRecDepth 100000 in
theorem trod_slIns {fuel : Nat} {cs : List Value} {x : DataW H × List MemPlace} (h : DataW.trod enc Tryd.prog w base sp held fuel 22 cs = some x) :
    ∃ (A : Option Addr) (cap : Nat) (l : List Ins), cs = [.slice A l.length cap] ∧ SlN w A l ∧ (A = none → l.length = 0 ∧ cap = 0) ∧ l.length ≤ maxLen := by
  obtain ⟨A, cap, l, hcs, hlc, hcm, hn, hr⟩ := open_list (d := 5) Ins.none (fun (o : Ins) es => es = [.int .i64 o.op, .int .i64 o.a, .int .i64 o.b, .int .i64 o.c]) Tryd.underlying22 (ts := [3, 3, 3, 3]) (by kernel_rfl) (by kernel_rfl) (by decide) (fun es hl => by
    obtain ⟨k, h0, _⟩ := hl.int (i := 0) rfl Tryd.underlying3
    obtain ⟨g, h1, _⟩ := hl.int (i := 1) rfl Tryd.underlying3
    obtain ⟨x, h2, _⟩ := hl.int (i := 2) rfl Tryd.underlying3
    obtain ⟨y, h3, _⟩ := hl.int (i := 3) rfl Tryd.underlying3
    have hlen := hl.1
    match es, hlen with
    | [e0, e1, e2, e3], _ =>
      simp at h0 h1 h2 h3
      exact ⟨⟨k, g, x, y⟩, by simp [h0, h1, h2, h3]⟩) h
  refine ⟨A, cap, l, hcs, fun h0 => ?_, fun e => ⟨by have := hn e; omega, hn e⟩, Nat.le_trans hlc hcm⟩
  obtain ⟨b, off, hA, hb, hi⟩ := hr h0
  refine ⟨b, off, hA, hb, fun i hil => ?_⟩
  obtain ⟨es, rfl, hl, hc⟩ := hi i hil
  exact ⟨hc 0 (by decide), hc 1 (by decide), hc 2 (by decide), hc 3 (by decide)⟩
set_option maxRecDepth 100000 in
theorem open_slIns {r : Reach} {b0 : Nat} {v : Value} {x : DataW H} {p : List MemPlace}
    (hv : Value.okWide Tryd.prog w r b0 22 v) (h : DataW.Trod enc Tryd.prog w base sp held 22 v x p) :
    ∃ (A : Option Addr) (cap : Nat) (l : List Ins), v = .slice A l.length cap ∧ SlN w A l ∧ (A = none → l.length = 0 ∧ cap = 0) := by
  obtain ⟨a0, len0, cap0, rfl⟩ := okWide_slice Tryd.underlying22 hv
  obtain ⟨fuel, hf⟩ := h
  have hf' : DataW.trod enc Tryd.prog w base sp held fuel 22 [.slice a0 len0 cap0] = some (x, p) := hf
  obtain ⟨A, cap, l, hcs, h1, h2, _⟩ := trod_slIns hf'
  simp only [List.cons.injEq, and_true] at hcs
  exact ⟨A, cap, l, hcs, h1, h2⟩
end

end Go.Proofs.YtkobeajbiendlaaDoor
