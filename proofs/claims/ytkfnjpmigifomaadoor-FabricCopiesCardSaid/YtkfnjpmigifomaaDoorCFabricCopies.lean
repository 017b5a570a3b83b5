/- What is proved: the law FabricCopies of donjonlaw05, for every input. Conditions: the tables of limits of package place and of kinds of package note hold what their initialisers lay (tied to the program's text). -/
import Derived.Test.YtkfnjpmigifomaaDoorLw5
import Derived.Test.YtkfnjpmigifomaaDoorOpen05
namespace Go.Proofs.YtkfnjpmigifomaaDoor.lawFabricCopies
open Go.ChangeShapes Go.WideShapes Go.ChangeAt Go.RowKit
set_option maxRecDepth 100000 in
theorem contract (H : Type) (enc : TypeId × Value → H) (W : World) (base : Nat) (args : Array Value) (ds gs : List (DataW H)) (before : List MemPlace)
    (hval : ∀ (j : Nat) t v, Tryd.f7.params[j]? = some t → args[j]? = some v → Value.okWide Tryd.prog W .any base t v)
    (hW : DataW.Whole enc Tryd.prog Tryd.f7.params.toList Rows.fabricCopiesSpec.vars false W args.toList ds gs before) (hL : laidMetH Tryd.prog Rows.fabricCopiesRow.laid W) :
    Calls Tryd.prog 7 args W fun e W' => ∃ v, e = .returned v ∧ Rows.fabricCopiesSpec.post enc Tryd.prog Tryd.f7 false true false false W args v W' := by
  have hW' := hW
  obtain ⟨p, q, hA0, hV, rfl, hfz, hnd⟩ := hW
  have hA : DataW.TrodAll enc Tryd.prog W 0 (fun _ => true) true Tryd.f7.params.toList args.toList ds p := hA0
  obtain ⟨rfl, rfl⟩ := trodVars_none hV
  rw [Tryd.params7] at hA hval
  obtain ⟨v0, v1, v2, d0, d1, d2, p0, p1, p2, rfl, rfl, rfl, h0, h1, h2⟩ := trodAll_three hA
  obtain ⟨c, rfl⟩ := open_cfg (hval 0 23 v0 rfl rfl) h0
  obtain ⟨A, cap, l, rfl, hP, hm⟩ := open_slP (hval 1 64 v1 rfl rfl) h1
  obtain ⟨B, cap', l', rfl, hP', hm'⟩ := open_slP (hval 2 64 v2 rfl rfl) h2
  refine (fabriccopies c A B l l' cap cap' W hP hm hP' hm' (lims_of_two hL) (kinds_of_two hL)).mono fun e W' ⟨he, hb⟩ => ⟨_, he, ?_⟩
  refine law_post laidOut ?_ rfl Tryd.underlying4 rfl rfl hW' hb
  rw [Tryd.params7]
  have hall : ([23, 64, 64].all fun t => Tryd.prog.readableRec t && decide (t < Tryd.prog.types.size)) = true := by kernel_rfl
  intro t ht
  have h := List.all_eq_true.1 hall t (by simpa using ht)
  simpa using h

/-- A world for the witness. -/
noncomputable def laidWorld (os : Os) : World := { World.holding Tryd.prog os ⟨#[], #[], []⟩ with heap := ((World.holding Tryd.prog os ⟨#[], #[], []⟩).heap.modify 1 fun | .cells _ t frozen => .cells #[.int .i64 4, .int .i64 16, .int .i64 8, .int .i64 4, .int .i64 16, .int .i64 8, .int .i64 4] t frozen | o => o).modify 2 fun | .cells _ t frozen => .cells #[.string ⟨#[]⟩, .int .i64 0, .int .i64 0, .int .i64 0, .int .i64 0, .int .i64 0, .int .i64 0, .int .i64 0, .int .i64 0, .string ⟨#[103, 101, 116, 115]⟩, .int .i64 0, .int .i64 1, .int .i64 2, .int .i64 3, .int .i64 0, .int .i64 0, .int .i64 0, .int .i64 0, .string ⟨#[103, 101, 116, 109]⟩, .int .i64 0, .int .i64 1, .int .i64 2, .int .i64 3, .int .i64 0, .int .i64 0, .int .i64 0, .int .i64 0, .string ⟨#[112, 117, 116]⟩, .int .i64 0, .int .i64 1, .int .i64 2, .int .i64 4, .int .i64 8, .int .i64 9, .int .i64 10, .int .i64 0, .string ⟨#[100, 111, 110, 101]⟩, .int .i64 1, .int .i64 1, .int .i64 2, .int .i64 0, .int .i64 0, .int .i64 0, .int .i64 0, .int .i64 0, .string ⟨#[114, 101, 112, 108, 121]⟩, .int .i64 1, .int .i64 1, .int .i64 2, .int .i64 5, .int .i64 8, .int .i64 9, .int .i64 10, .int .i64 11, .string ⟨#[119, 97, 108, 107]⟩, .int .i64 0, .int .i64 1, .int .i64 12, .int .i64 0, .int .i64 0, .int .i64 0, .int .i64 0, .int .i64 0, .string ⟨#[100, 114, 111, 112, 112, 101, 100]⟩, .int .i64 1, .int .i64 1, .int .i64 13, .int .i64 0, .int .i64 0, .int .i64 0, .int .i64 0, .int .i64 0, .string ⟨#[103, 114, 97, 110, 116]⟩, .int .i64 2, .int .i64 1, .int .i64 2, .int .i64 4, .int .i64 6, .int .i64 8, .int .i64 9, .int .i64 0, .string ⟨#[110, 97, 99, 107]⟩, .int .i64 2, .int .i64 1, .int .i64 2, .int .i64 11, .int .i64 0, .int .i64 0, .int .i64 0, .int .i64 0, .string ⟨#[112, 117, 116, 97, 99, 107]⟩, .int .i64 2, .int .i64 1, .int .i64 2, .int .i64 0, .int .i64 0, .int .i64 0, .int .i64 0, .int .i64 0, .string ⟨#[112, 114, 111, 98, 101]⟩, .int .i64 3, .int .i64 1, .int .i64 2, .int .i64 7, .int .i64 0, .int .i64 0, .int .i64 0, .int .i64 0, .string ⟨#[119, 97, 108, 107, 101, 100]⟩, .int .i64 2, .int .i64 1, .int .i64 8, .int .i64 9, .int .i64 12, .int .i64 0, .int .i64 0, .int .i64 0, .string ⟨#[100, 114, 111, 112]⟩, .int .i64 3, .int .i64 1, .int .i64 13, .int .i64 0, .int .i64 0, .int .i64 0, .int .i64 0, .int .i64 0] t frozen | o => o }
theorem laid_met (os : Os) : laidMet Tryd.prog Rows.fabricCopiesRow.laid ((laidWorld os).forCall (fun _ _ => 0) ⟨#[], #[.agg #[.int .i64 1, .int .i64 1, .int .i64 1, .int .i64 1, .int .i64 1, .int .i64 1, .int .i64 1], .slice none 0 0, .slice none 0 0], []⟩).memory :=
  laidMet_of_run' 10 (by kernel_rfl) (by kernel_rfl)
theorem reads (os : Os) {H : Type} (enc : TypeId × Value → H) : ∃ places, DataW.whole enc Tryd.prog ((laidWorld os).forCall (fun _ _ => 0) ⟨#[], #[.agg #[.int .i64 1, .int .i64 1, .int .i64 1, .int .i64 1, .int .i64 1, .int .i64 1, .int .i64 1], .slice none 0 0, .slice none 0 0], []⟩).memory Tryd.f7.params.toList Rows.fabricCopiesSpec.vars false #[.agg #[.int .i64 1, .int .i64 1, .int .i64 1, .int .i64 1, .int .i64 1, .int .i64 1, .int .i64 1], .slice none 0 0, .slice none 0 0].toList 10 = some ([.agg [.lit (.int .i64 1), .lit (.int .i64 1), .lit (.int .i64 1), .lit (.int .i64 1), .lit (.int .i64 1), .lit (.int .i64 1), .lit (.int .i64 1)], .nil, .nil], [], places) :=
  ⟨[], by kernel_rfl⟩

set_option maxRecDepth 100000 in
theorem lifted (os : Os) (started : os.Started) (H : Type) (enc : TypeId × Value → H) (F : Stop.Interp) :
    ReturnsInHanded {} Tryd.checked os 7 .any ((OpenSpec.ofChange Rows.fabricCopiesSpec).preRow enc Tryd.prog Tryd.f7 Rows.fabricCopiesRow.domain false Rows.fabricCopiesRow.laid) (((OpenSpec.ofChange Rows.fabricCopiesSpec).at F).post enc Tryd.prog Tryd.f7 false true false false) := by
  obtain ⟨places, hx⟩ := reads os enc
  refine returnsInHanded_of_row (C := Tryd.checked) (s := OpenSpec.ofChange Rows.fabricCopiesSpec) own started (by kernel_rfl) Tryd.func7
    (witness_row_at (enc := enc) (C := Tryd.checked) false (laidWorld os) #[.agg #[.int .i64 1, .int .i64 1, .int .i64 1, .int .i64 1, .int .i64 1, .int .i64 1, .int .i64 1], .slice none 0 0, .slice none 0 0] rfl (by kernel_rfl) (by kernel_rfl) (by kernel_rfl)
      (OpenSpec.preRow_of_cond 10 hx (by kernel_rfl) (fun k hk => by cases hk) (by kernel_rfl) (laid_met os))) ?_
  intro W base args ds gs before hval hW _ _ _ hL _ _
  exact contract H enc W base args ds gs before hval hW hL

theorem said : Rows.FabricCopiesSaid :=
  OpenClaim.holds_of_cond 7 Tryd.f7 rfl rfl rfl rfl rfl rfl rfl ⟨rfl, rfl, rfl, rfl, rfl⟩ rfl rfl rfl rfl rfl (by kernel_rfl) Tryd.func7 (by kernel_rfl)
    (of_decide_eq_true (by kernel_rfl)) (by unfold Func.isWrapper; first | (rw [if_pos (by decide +kernel)]; kernel_rfl) | (rw [if_neg (by decide +kernel)]; exact ⟨rfl, rfl⟩))
    (fun os started H enc _ F => by rw [OpenClaim.pre_eq_preRow]; exact lifted os started H enc F)

/-- No parameter wants a stand-in; the program's own looks are off. -/
theorem plain (f : FuncId) (fn : Func) (hf : Tryd.pinned.checked.prog.funcNamed "donjon/donjonlaw05.FabricCopies" = some f) (hfn : Tryd.pinned.checked.prog.funcs[f]? = some fn) :
    false = Tryd.pinned.checked.prog.looks [] ∧ ∀ (j : Nat) t, fn.params[j]? = some t → Tryd.pinned.checked.prog.wantsStandIn t = false := by
  obtain rfl : f = 7 := Option.some.inj ((show Tryd.prog.funcNamed "donjon/donjonlaw05.FabricCopies" = some 7 by kernel_rfl).symm.trans hf) |>.symm
  obtain rfl : fn = Tryd.f7 := (Option.some.inj (Tryd.func7.symm.trans hfn)).symm
  refine ⟨by kernel_rfl, fun j t ht => ?_⟩
  rw [Tryd.params7] at ht
  have hm := Array.mem_of_getElem? ht
  have hall : (#[23, 64, 64].all fun t => Tryd.prog.wantsStandIn t == false) = true := by kernel_rfl
  show Tryd.prog.wantsStandIn t = false
  simpa using Array.all_eq_true'.1 hall t hm

/-- The law's card. -/
theorem card : Rows.FabricCopiesCardSaid :=
  Claim7.holds_tied_plain_at .later [] _ _ _ _ said (fun _ h => by cases h) (by kernel_rfl) (fun _ h => by cases h) fabricCopies_row_tie rfl ⟨rfl, rfl⟩ (by kernel_rfl) rfl plain (by kernel_rfl)

end Go.Proofs.YtkfnjpmigifomaaDoor.lawFabricCopies
