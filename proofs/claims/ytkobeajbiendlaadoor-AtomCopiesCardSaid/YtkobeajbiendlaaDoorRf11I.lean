/- What this text holds: the drawn region of Same that holds an instruction beside the document's. No condition. -/
import Derived.Test.YtkobeajbiendlaaDoorRf11E
import Derived.Test.YtkobeajbiendlaaDoorSub
import Derived.Deep.RegionWith
import Derived.Deep.RegionHeld3
import Derived.Deep.CutRange
namespace Go.Proofs.YtkobeajbiendlaaDoor
open Go.RowKit

theorem sln_one {V : World} {b : Nat} {xi : Ins} {t : TypeId} (h : V.heap[b]? = some (.cells #[.int .i64 xi.op, .int .i64 xi.a, .int .i64 xi.b, .int .i64 xi.c] t (0, 0))) : SlN V (some ⟨b, 0, none⟩) [xi] := fun _ => by
  refine ⟨b, 0, rfl, lt_of h, fun i hi => ?_⟩
  have : i = 0 := by simp at hi; omega
  subst this
  have e : atI [xi] 0 = xi := rfl
  rw [e]
  refine ⟨?_, ?_, ?_, ?_⟩ <;> simp [World.cell?, h]

section
variable {P : Program} {md : Region.Mode} {ops : Array Oper} {Q : Exit → Act → World → Prop} {S : World → Prop} {d : Option Tmp} {o : Op} {ty : TypeId} {ps : String} {af : Array Edge} {gd : Option (Nat × Bool)}
theorem takeH {i : Nat} {v : Value} {fuel : Nat} {listed : Array Bool} {a : Act} {w : World} (hi : ops[i]? = some { dst := d, op := o, type := ty, pos := ps, after := af, guard := gd })
    (hs : Region.noSelect ops = true) (hf : Region.free md ops listed i = true) (hr : (Region.ready md ops listed).contains i = true)
    (hQ : ∀ c a w, Q (.panic c) (a.put d v) w → Q (.panic c) a w) (hy : YieldsIf P ops S { dst := d, op := o, type := ty, pos := ps, after := af, guard := gd } v a) (hS : S w)
    (h : wpAnyH P md ops Q S fuel (listed.setIfInBounds i true) (a.put d v) w) : wpAnyH P md ops Q S (fuel + 1) listed a w :=
  wpAnyH_take hi hs hf hr hQ hy hS h
theorem readyH {fuel : Nat} {listed : Array Bool} {a : Act} {w : World} {i : Nat} {rs : List Nat} (ho : ops[i]? = some { dst := d, op := o, type := ty, pos := ps, after := af, guard := gd })
    (h : ∀ K' : Act → World → Prop, Shut (∀ a w, S w → (S w → wpAnyH P md ops Q S fuel (listed.setIfInBounds i true) a w) → K' a w) → if Region.wanted { dst := d, op := o, type := ty, pos := ps, after := af, guard := gd } (yielded ops a.tmps) = true then Oper.wp P { dst := d, op := o, type := ty, pos := ps, after := af, guard := gd } a w K' Q else K' (a.put d undef) w)
    (hs : AllReadyH P md ops Q S fuel listed a w rs) : AllReadyH P md ops Q S fuel listed a w (i :: rs) := AllReadyH.cons ho h hs
end

set_option maxRecDepth 100000 in
set_option maxHeartbeats 8000000 in
theorem same_reg12 {wr : World} {bx bk bb off ka pl c : Nat} {xi : Ins} {r0 r1 r2 r3 so : Int} {sx0 sx1 sx2 sx3 sx4 sx5 sx6 sx7 sx11 sx12 sx13 sx14 sx15 sx16 sx17 sx18 sx19 sx20 sx21 sx22 sx23 sx24 sx25 sx26 sx27 sx28 sx29 sx30 sx31 sx32 sx33 sx34 sx35 sx36 sx37 sx38 sx39 sx40 sx41 sx42 sx43 sx44 sx45 sx46 sx47 sx48 sx49 sx50 sx51 sx52 sx53 sx54 sx55 sx56 sx57 sx58 sx59 sx60 sx61 sx62 sx63 sx64 sx65 sx66 sx67 sx68 sx69 sx70 sx71 sx72 sx73 sx74 sx75 sx76 sx77 sx78 sx79 sx80 sx81 sx82 sx83 sx84 sx85 sx86 sx87 sx88 sx89 sx90 sx91 sx92 sx93 sx94 sx118 sx119 sx120 sx121 sx122 sx123 sx124 sx125 sx126 sx127 sx128 sx129 sx130 sx131 sx132 sx133 sx134 sx135 sx136 sx137 sx138 sx139 sx140 sx141 sx142 sx143 sx144 sx145 sx146 sx147 sx148 sx149 sx150 sx151 sx152 sx153 sx154 sx155 sx156 sx157 sx158 sx159 sx160 sx161 sx162 sx163 sx164 sx165 sx166 sx167 sx168 sx169 sx170 sx171 sx172 sx173 sx174 sx175 sx176 sx177 sx178 sx179 sx180 sx181 sx182 sx183 sx184 sx185 sx186 sx187 sx188 sx189 sx190 sx191 sx192 sx193 sx194 sx195 sx196 sx197 sx198 sx199 sx200 sx201 sx202 sx203 sx204 sx205 sx206 sx207 su95 su96 su97 su98 su99 su100 su101 su102 su103 su104 su105 su106 su107 su108 su109 su110 su111 su112 su113 su114 su115 su116 su117 : Value} {J K : Act → World → Prop} {Q : Exit → Act → World → Prop}
    (HX : Hid (wr.heap[bx]? = some (.cells #[.int .i64 xi.op, .int .i64 xi.a, .int .i64 xi.b, .int .i64 xi.c] 36 (0, 0)))) (HKB : Hid (wr.heap[bk]? = some (.cells #[.slice (some ⟨bb, off, none⟩) pl c, .int .i64 r0, .int .i64 r1, .int .i64 r2, .int .i64 r3, .int .i64 ka, .int .i64 so] 126 (0, 0))))
    (HP : Hid (bb < wr.heap.size ∧ wr.cell? ⟨bb, off + ka * 4, none⟩ = some (.int .i64 xi.op) ∧ wr.cell? ⟨bb, off + ka * 4 + 1, none⟩ = some (.int .i64 xi.a) ∧ wr.cell? ⟨bb, off + ka * 4 + 2, none⟩ = some (.int .i64 xi.b) ∧ wr.cell? ⟨bb, off + ka * 4 + 3, none⟩ = some (.int .i64 xi.c))) (hkl' : (ka : Int) < (pl : Int)) (_hk32 : (ka : Int) ≤ 32)
    (hJ : ∀ a' w', (∃ sv95 sv96 sv97 sv98 sv99 sv100 sv101 sv102 sv103 sv104 sv105 sv106 sv107 sv108 sv109 sv110 sv111 sv112 sv113 sv114 sv115 sv116 sv117 : Value, (sv117 = .bool false ∧ Hid (Below wr.heap.size wr w')) ∧ a' = { tmps := #[sx0, sx1, sx2, sx3, sx4, sx5, sx6, sx7, .pointer (some ⟨bx, 0, none⟩), .bool true, .pointer (some ⟨bk, 0, none⟩), sx11, sx12, sx13, sx14, sx15, sx16, sx17, sx18, sx19, sx20, sx21, sx22, sx23, sx24, sx25, sx26, sx27, sx28, sx29, sx30, sx31, sx32, sx33, sx34, sx35, sx36, sx37, sx38, sx39, sx40, sx41, sx42, sx43, sx44, sx45, sx46, sx47, sx48, sx49, sx50, sx51, sx52, sx53, sx54, sx55, sx56, sx57, sx58, sx59, sx60, sx61, sx62, sx63, sx64, sx65, sx66, sx67, sx68, sx69, sx70, sx71, sx72, sx73, sx74, sx75, sx76, sx77, sx78, sx79, sx80, sx81, sx82, sx83, sx84, sx85, sx86, sx87, sx88, sx89, sx90, sx91, sx92, sx93, sx94, sv95, sv96, sv97, sv98, sv99, sv100, sv101, sv102, sv103, sv104, sv105, sv106, sv107, sv108, sv109, sv110, sv111, sv112, sv113, sv114, sv115, sv116, sv117, sx118, sx119, sx120, sx121, sx122, sx123, sx124, sx125, sx126, sx127, sx128, sx129, sx130, sx131, sx132, sx133, sx134, sx135, sx136, sx137, sx138, sx139, sx140, sx141, sx142, sx143, sx144, sx145, sx146, sx147, sx148, sx149, sx150, sx151, sx152, sx153, sx154, sx155, sx156, sx157, sx158, sx159, sx160, sx161, sx162, sx163, sx164, sx165, sx166, sx167, sx168, sx169, sx170, sx171, sx172, sx173, sx174, sx175, sx176, sx177, sx178, sx179, sx180, sx181, sx182, sx183, sx184, sx185, sx186, sx187, sx188, sx189, sx190, sx191, sx192, sx193, sx194, sx195, sx196, sx197, sx198, sx199, sx200, sx201, sx202, sx203, sx204, sx205, sx206, sx207], defers := [] }) → J a' w') (hK : ∀ a' w', Met J a' w' → K a' w') :
    (rg Tryd.f37 12).wp Tryd.prog (Exit.then K Q) { tmps := #[sx0, sx1, sx2, sx3, sx4, sx5, sx6, sx7, .pointer (some ⟨bx, 0, none⟩), .bool true, .pointer (some ⟨bk, 0, none⟩), sx11, sx12, sx13, sx14, sx15, sx16, sx17, sx18, sx19, sx20, sx21, sx22, sx23, sx24, sx25, sx26, sx27, sx28, sx29, sx30, sx31, sx32, sx33, sx34, sx35, sx36, sx37, sx38, sx39, sx40, sx41, sx42, sx43, sx44, sx45, sx46, sx47, sx48, sx49, sx50, sx51, sx52, sx53, sx54, sx55, sx56, sx57, sx58, sx59, sx60, sx61, sx62, sx63, sx64, sx65, sx66, sx67, sx68, sx69, sx70, sx71, sx72, sx73, sx74, sx75, sx76, sx77, sx78, sx79, sx80, sx81, sx82, sx83, sx84, sx85, sx86, sx87, sx88, sx89, sx90, sx91, sx92, sx93, sx94, su95, su96, su97, su98, su99, su100, su101, su102, su103, su104, su105, su106, su107, su108, su109, su110, su111, su112, su113, su114, su115, su116, su117, sx118, sx119, sx120, sx121, sx122, sx123, sx124, sx125, sx126, sx127, sx128, sx129, sx130, sx131, sx132, sx133, sx134, sx135, sx136, sx137, sx138, sx139, sx140, sx141, sx142, sx143, sx144, sx145, sx146, sx147, sx148, sx149, sx150, sx151, sx152, sx153, sx154, sx155, sx156, sx157, sx158, sx159, sx160, sx161, sx162, sx163, sx164, sx165, sx166, sx167, sx168, sx169, sx170, sx171, sx172, sx173, sx174, sx175, sx176, sx177, sx178, sx179, sx180, sx181, sx182, sx183, sx184, sx185, sx186, sx187, sx188, sx189, sx190, sx191, sx192, sx193, sx194, sx195, sx196, sx197, sx198, sx199, sx200, sx201, sx202, sx203, sx204, sx205, sx206, sx207], defers := [] } wr := by
  conv => arg 2; whnf
  obtain ⟨xo, xa, xb, xc⟩ := xi
  have HSM := Lib.hid (fun (V : World) (b1 b2 : Nat) (_hb : Below wr.heap.size wr V) (h1 : V.heap[b1]? = some (.cells #[.int .i64 xo, .int .i64 xa, .int .i64 xb, .int .i64 xc] 36 (0, 0))) (h2 : V.heap[b2]? = some (.cells #[.int .i64 xo, .int .i64 xa, .int .i64 xb, .int .i64 xc] 130 (0, 0))) => same10_one ⟨xo, xa, xb, xc⟩ (some ⟨b1, 0, none⟩) (some ⟨b2, 0, none⟩) 1 1 V (sln_one (xi := ⟨xo, xa, xb, xc⟩) h1) (sln_one (xi := ⟨xo, xa, xb, xc⟩) h2))
  have zx := lt_of HX.out
  have zk := lt_of HKB.out
  obtain ⟨zb, q6, q7, q8, q9⟩ := HP.out
  have q0 : wr.cell? ⟨bx, 0, none⟩ = some (.int .i64 xo) := by simp [World.cell?, HX.out]
  have q1 : wr.cell? ⟨bx, 1, none⟩ = some (.int .i64 xa) := by simp [World.cell?, HX.out]
  have q2 : wr.cell? ⟨bx, 2, none⟩ = some (.int .i64 xb) := by simp [World.cell?, HX.out]
  have q3 : wr.cell? ⟨bx, 3, none⟩ = some (.int .i64 xc) := by simp [World.cell?, HX.out]
  have q4 : wr.cell? ⟨bk, 0, none⟩ = some (.slice (some ⟨bb, off, none⟩) pl c) := by simp [World.cell?, HKB.out]
  have q5 : wr.cell? ⟨bk, 5, none⟩ = some (.int .i64 ka) := by simp [World.cell?, HKB.out]
  dsimp only at q6 q7 q8 q9
  clear HX HKB HP
  have HQH := Lib.hid (fun (V : World) (hb : Below wr.heap.size wr V) => show V.cell? ⟨bx, 0, none⟩ = some (.int .i64 xo) ∧ V.cell? ⟨bx, 1, none⟩ = some (.int .i64 xa) ∧ V.cell? ⟨bx, 2, none⟩ = some (.int .i64 xb) ∧ V.cell? ⟨bx, 3, none⟩ = some (.int .i64 xc) ∧ V.cell? ⟨bk, 0, none⟩ = some (.slice (some ⟨bb, off, none⟩) pl c) ∧ V.cell? ⟨bk, 5, none⟩ = some (.int .i64 ka) ∧ V.cell? ⟨bb, off + ka * 4, none⟩ = some (.int .i64 xo) ∧ V.cell? ⟨bb, off + ka * 4 + 1, none⟩ = some (.int .i64 xa) ∧ V.cell? ⟨bb, off + ka * 4 + 2, none⟩ = some (.int .i64 xb) ∧ V.cell? ⟨bb, off + ka * 4 + 3, none⟩ = some (.int .i64 xc) from
    ⟨(hb.cell (p := ⟨bx, 0, none⟩) zx).trans q0, (hb.cell (p := ⟨bx, 1, none⟩) zx).trans q1, (hb.cell (p := ⟨bx, 2, none⟩) zx).trans q2, (hb.cell (p := ⟨bx, 3, none⟩) zx).trans q3, (hb.cell (p := ⟨bk, 0, none⟩) zk).trans q4, (hb.cell (p := ⟨bk, 5, none⟩) zk).trans q5, (hb.cell (p := ⟨bb, off + ka * 4, none⟩) zb).trans q6, (hb.cell (p := ⟨bb, off + ka * 4 + 1, none⟩) zb).trans q7, (hb.cell (p := ⟨bb, off + ka * 4 + 2, none⟩) zb).trans q8, (hb.cell (p := ⟨bb, off + ka * 4 + 3, none⟩) zb).trans q9⟩)
  have QQ := HQH.out wr.drew (ext_drew (Below.refl _ wr))
  clear q0 q1 q2 q3 q4 q5 q6 q7 q8 q9
  refine wp_region_noPanic ?_
  refine wp_region_held_drew (S := (fun w' => w'.cell? ⟨bx, 0, none⟩ = some (.int .i64 xo) ∧ w'.cell? ⟨bx, 1, none⟩ = some (.int .i64 xa) ∧ w'.cell? ⟨bx, 2, none⟩ = some (.int .i64 xb) ∧ w'.cell? ⟨bx, 3, none⟩ = some (.int .i64 xc) ∧ w'.cell? ⟨bk, 0, none⟩ = some (.slice (some ⟨bb, off, none⟩) pl c) ∧ w'.cell? ⟨bk, 5, none⟩ = some (.int .i64 ka) ∧ w'.cell? ⟨bb, off + ka * 4, none⟩ = some (.int .i64 xo) ∧ w'.cell? ⟨bb, off + ka * 4 + 1, none⟩ = some (.int .i64 xa) ∧ w'.cell? ⟨bb, off + ka * 4 + 2, none⟩ = some (.int .i64 xb) ∧ w'.cell? ⟨bb, off + ka * 4 + 3, none⟩ = some (.int .i64 xc))) (by kernel_rfl) QQ (fun hHeld => ?_)
  (try simp only [])
  refine takeH (i := 0) (v := ?_) rfl (by kernel_rfl) (by kernel_rfl) (by kernel_rfl) (fun _ _ _ h => h) (Or.inl ⟨by rfl, ?_⟩) (by assumption) ?_
  rotate_left
  · ((intro w hSw; (try dsimp only at hSw); go_simp) <;> with_reducible rfl)
  (try simp only [Act.put, List.setIfInBounds_toArray, List.set_cons_zero, List.set_cons_succ])
  refine takeH (i := 1) (v := ?_) rfl (by kernel_rfl) (by kernel_rfl) (by kernel_rfl) (fun _ _ _ h => h) (Or.inl ⟨by rfl, ?_⟩) (by assumption) ?_
  rotate_left
  · ((intro w hSw; (try dsimp only at hSw); go_simp) <;> with_reducible rfl)
  (try simp only [Act.put, List.setIfInBounds_toArray, List.set_cons_zero, List.set_cons_succ])
  refine takeH (i := 2) (v := ?_) rfl (by kernel_rfl) (by kernel_rfl) (by kernel_rfl) (fun _ _ _ h => h) (Or.inl ⟨by rfl, ?_⟩) (by assumption) ?_
  rotate_left
  · ((intro w hSw; (try dsimp only at hSw); go_simp) <;> with_reducible rfl)
  (try simp only [Act.put, List.setIfInBounds_toArray, List.set_cons_zero, List.set_cons_succ])
  refine takeH (i := 4) (v := ?_) rfl (by kernel_rfl) (by kernel_rfl) (by kernel_rfl) (fun _ _ _ h => h) (Or.inl ⟨by rfl, ?_⟩) (by assumption) ?_
  rotate_left
  · ((intro w hSw; (try dsimp only at hSw); go_simp) <;> with_reducible rfl)
  (try simp only [Act.put, List.setIfInBounds_toArray, List.set_cons_zero, List.set_cons_succ])
  refine takeH (i := 5) (v := ?_) rfl (by kernel_rfl) (by kernel_rfl) (by kernel_rfl) (fun _ _ _ h => h) (Or.inl ⟨by rfl, ?_⟩) (by assumption) ?_
  rotate_left
  · ((intro w hSw; (try dsimp only at hSw); go_simp) <;> with_reducible rfl)
  (try simp only [Act.put, List.setIfInBounds_toArray, List.set_cons_zero, List.set_cons_succ])
  refine takeH (i := 6) (v := ?_) rfl (by kernel_rfl) (by kernel_rfl) (by kernel_rfl) (fun _ _ _ h => h) (Or.inl ⟨by rfl, ?_⟩) (by assumption) ?_
  rotate_left
  · ((intro w hSw; (try dsimp only at hSw); go_simp) <;> with_reducible rfl)
  (try simp only [Act.put, List.setIfInBounds_toArray, List.set_cons_zero, List.set_cons_succ])
  refine takeH (i := 7) (v := ?_) rfl (by kernel_rfl) (by kernel_rfl) (by kernel_rfl) (fun _ _ _ h => h) (Or.inl ⟨by rfl, ?_⟩) (by assumption) ?_
  rotate_left
  · ((intro w hSw; (try dsimp only at hSw); go_simp) <;> with_reducible rfl)
  (try simp only [Act.put, List.setIfInBounds_toArray, List.set_cons_zero, List.set_cons_succ])
  refine takeH (i := 8) (v := ?_) rfl (by kernel_rfl) (by kernel_rfl) (by kernel_rfl) (fun _ _ _ h => h) (Or.inl ⟨by rfl, ?_⟩) (by assumption) ?_
  rotate_left
  · ((intro w hSw; (try dsimp only at hSw); go_simp) <;> with_reducible rfl)
  (try simp only [Act.put, List.setIfInBounds_toArray, List.set_cons_zero, List.set_cons_succ])
  refine takeH (i := 9) (v := ?_) rfl (by kernel_rfl) (by kernel_rfl) (by kernel_rfl) (fun _ _ _ h => h) (Or.inl ⟨by rfl, ?_⟩) (by assumption) ?_
  rotate_left
  · ((intro w hSw; (try dsimp only at hSw); go_simp) <;> with_reducible rfl)
  (try simp only [Act.put, List.setIfInBounds_toArray, List.set_cons_zero, List.set_cons_succ])
  refine wpAnyH_ready (rs := [3, 10]) (by kernel_rfl) (by simp) ?_
  refine readyH (i := 3) rfl (fun K hK => ?_) ?_
  · go_simp
    refine hK.out _ _ ?_ (fun hHeld => ?_)
    · (try dsimp only)
      (first | exact QQ | exact HQH.out _ (by repeat (with_reducible first | exact Below.refl _ _ | assumption | (refine ext_next (by assumption) ?_) | apply ext_alloc | apply ext_past | apply ext_drew | apply ext_drewN)))
    clear hK K
    (try simp only [Act.put, List.setIfInBounds_toArray, List.set_cons_zero, List.set_cons_succ])
    refine wpAnyH_ready (rs := [10]) (by kernel_rfl) (by simp) ?_
    refine readyH (i := 10) rfl (fun K hK => ?_) AllReadyH.nil
    go_simp
    refine hK.out _ _ ?_ (fun hHeld => ?_)
    · (try dsimp only)
      (first | exact QQ | exact HQH.out _ (by repeat (with_reducible first | exact Below.refl _ _ | assumption | (refine ext_next (by assumption) ?_) | apply ext_alloc | apply ext_past | apply ext_drew | apply ext_drewN)))
    clear hK K
    (try simp only [Act.put, List.setIfInBounds_toArray, List.set_cons_zero, List.set_cons_succ])
    refine wpAnyH_ready (rs := [11]) (by kernel_rfl) (by simp) ?_
    refine readyH (i := 11) rfl (fun K hK => ?_) AllReadyH.nil
    go_simp
    (go_at_call 61; refine (HSM.out _ _ _ (by repeat (with_reducible first | exact Below.refl _ _ | assumption | (refine ext_next (by assumption) ?_) | apply ext_alloc | apply ext_past | apply ext_drew | apply ext_drewN)) (by repeat (first | assumption | exact alNew rfl | exact alNew (by simp) | refine alOld ?_ | refine (hb.block _ (by first | (simp; done) | (simp; omega))).trans ?_)) (by repeat (first | assumption | exact alNew rfl | exact alNew (by simp) | refine alOld ?_ | refine (hb.block _ (by first | (simp; done) | (simp; omega))).trans ?_))).mono ?_; rintro e w5 ⟨rfl, hb5⟩; have hb6 : Below wr.heap.size wr w5 := ext_next hb5 (by repeat (with_reducible first | exact Below.refl _ _ | assumption | (refine ext_next (by assumption) ?_) | apply ext_alloc | apply ext_past | apply ext_drew | apply ext_drewN)); have HB5 := Lib.hid hb6; have QQ := HQH.out w5 hb6; clear hb5)
    (try go_wp2_with fail)
    refine hK.out _ _ ?_ (fun hHeld => ?_)
    · (try dsimp only)
      (first | exact QQ | exact HQH.out _ (by repeat (with_reducible first | exact Below.refl _ _ | assumption | (refine ext_next (by assumption) ?_) | apply ext_alloc | apply ext_past | apply ext_drew | apply ext_drewN)))
    clear hK K
    (try simp only [Act.put, List.setIfInBounds_toArray, List.set_cons_zero, List.set_cons_succ])
    refine takeH (i := 12) (v := ?_) rfl (by kernel_rfl) (by kernel_rfl) (by kernel_rfl) (fun _ _ _ h => h) (Or.inl ⟨by rfl, ?_⟩) (by assumption) ?_
    rotate_left
    · ((intro w hSw; (try dsimp only at hSw); go_simp) <;> with_reducible rfl)
    (try simp only [Act.put, List.setIfInBounds_toArray, List.set_cons_zero, List.set_cons_succ])
    refine takeH (i := 13) (v := ?_) rfl (by kernel_rfl) (by kernel_rfl) (by kernel_rfl) (fun _ _ _ h => h) (Or.inl ⟨by rfl, ?_⟩) (by assumption) ?_
    rotate_left
    · ((intro w hSw; (try dsimp only at hSw); go_simp) <;> with_reducible rfl)
    (try simp only [Act.put, List.setIfInBounds_toArray, List.set_cons_zero, List.set_cons_succ])
    refine takeH (i := 14) (v := ?_) rfl (by kernel_rfl) (by kernel_rfl) (by kernel_rfl) (fun _ _ _ h => h) (Or.inl ⟨by rfl, ?_⟩) (by assumption) ?_
    rotate_left
    · ((intro w hSw; (try dsimp only at hSw); go_simp) <;> with_reducible rfl)
    (try simp only [Act.put, List.setIfInBounds_toArray, List.set_cons_zero, List.set_cons_succ])
    refine takeH (i := 15) (v := ?_) rfl (by kernel_rfl) (by kernel_rfl) (by kernel_rfl) (fun _ _ _ h => h) (Or.inl ⟨by rfl, ?_⟩) (by assumption) ?_
    rotate_left
    · ((intro w hSw; (try dsimp only at hSw); go_simp) <;> with_reducible rfl)
    (try simp only [Act.put, List.setIfInBounds_toArray, List.set_cons_zero, List.set_cons_succ])
    refine takeH (i := 16) (v := ?_) rfl (by kernel_rfl) (by kernel_rfl) (by kernel_rfl) (fun _ _ _ h => h) (Or.inl ⟨by rfl, ?_⟩) (by assumption) ?_
    rotate_left
    · ((intro w hSw; (try dsimp only at hSw); go_simp) <;> with_reducible rfl)
    (try simp only [Act.put, List.setIfInBounds_toArray, List.set_cons_zero, List.set_cons_succ])
    refine takeH (i := 17) (v := ?_) rfl (by kernel_rfl) (by kernel_rfl) (by kernel_rfl) (fun _ _ _ h => h) (Or.inl ⟨by rfl, ?_⟩) (by assumption) ?_
    rotate_left
    · ((intro w hSw; (try dsimp only at hSw); go_simp) <;> with_reducible rfl)
    (try simp only [Act.put, List.setIfInBounds_toArray, List.set_cons_zero, List.set_cons_succ])
    refine takeH (i := 18) (v := undef) rfl (by kernel_rfl) (by kernel_rfl) (by kernel_rfl) (fun _ _ _ h => h) (Or.inr ⟨by rfl, rfl⟩) (by assumption) ?_
    (try simp only [Act.put, List.setIfInBounds_toArray, List.set_cons_zero, List.set_cons_succ])
    refine takeH (i := 19) (v := undef) rfl (by kernel_rfl) (by kernel_rfl) (by kernel_rfl) (fun _ _ _ h => h) (Or.inr ⟨by rfl, rfl⟩) (by assumption) ?_
    (try simp only [Act.put, List.setIfInBounds_toArray, List.set_cons_zero, List.set_cons_succ])
    refine takeH (i := 20) (v := undef) rfl (by kernel_rfl) (by kernel_rfl) (by kernel_rfl) (fun _ _ _ h => h) (Or.inr ⟨by rfl, rfl⟩) (by assumption) ?_
    (try simp only [Act.put, List.setIfInBounds_toArray, List.set_cons_zero, List.set_cons_succ])
    refine takeH (i := 21) (v := ?_) rfl (by kernel_rfl) (by kernel_rfl) (by kernel_rfl) (fun _ _ _ h => h) (Or.inl ⟨by rfl, ?_⟩) (by assumption) ?_
    rotate_left
    · ((intro w hSw; (try dsimp only at hSw); go_simp) <;> with_reducible rfl)
    (try simp only [Act.put, List.setIfInBounds_toArray, List.set_cons_zero, List.set_cons_succ])
    refine takeH (i := 22) (v := ?_) rfl (by kernel_rfl) (by kernel_rfl) (by kernel_rfl) (fun _ _ _ h => h) (Or.inl ⟨by rfl, ?_⟩) (by assumption) ?_
    rotate_left
    · ((intro w hSw; (try dsimp only at hSw); go_simp) <;> with_reducible rfl)
    (try simp only [Act.put, List.setIfInBounds_toArray, List.set_cons_zero, List.set_cons_succ])
    refine wpAnyH_done (by kernel_rfl) ?_ _
    refine NoPanic.normal ?_
    (try go_wp2_with fail)
    go_meet
    exact ⟨rfl, HB5⟩
  refine readyH (i := 10) rfl (fun K hK => ?_) AllReadyH.nil
  go_simp
  refine hK.out _ _ ?_ (fun hHeld => ?_)
  · (try dsimp only)
    (first | exact QQ | exact HQH.out _ (by repeat (with_reducible first | exact Below.refl _ _ | assumption | (refine ext_next (by assumption) ?_) | apply ext_alloc | apply ext_past | apply ext_drew | apply ext_drewN)))
  clear hK K
  (try simp only [Act.put, List.setIfInBounds_toArray, List.set_cons_zero, List.set_cons_succ])
  refine wpAnyH_ready (rs := [3]) (by kernel_rfl) (by simp) ?_
  refine readyH (i := 3) rfl (fun K hK => ?_) AllReadyH.nil
  go_simp
  refine hK.out _ _ ?_ (fun hHeld => ?_)
  · (try dsimp only)
    (first | exact QQ | exact HQH.out _ (by repeat (with_reducible first | exact Below.refl _ _ | assumption | (refine ext_next (by assumption) ?_) | apply ext_alloc | apply ext_past | apply ext_drew | apply ext_drewN)))
  clear hK K
  (try simp only [Act.put, List.setIfInBounds_toArray, List.set_cons_zero, List.set_cons_succ])
  refine wpAnyH_ready (rs := [11]) (by kernel_rfl) (by simp) ?_
  refine readyH (i := 11) rfl (fun K hK => ?_) AllReadyH.nil
  go_simp
  (go_at_call 61; refine (HSM.out _ _ _ (by repeat (with_reducible first | exact Below.refl _ _ | assumption | (refine ext_next (by assumption) ?_) | apply ext_alloc | apply ext_past | apply ext_drew | apply ext_drewN)) (by repeat (first | assumption | exact alNew rfl | exact alNew (by simp) | refine alOld ?_ | refine (hb.block _ (by first | (simp; done) | (simp; omega))).trans ?_)) (by repeat (first | assumption | exact alNew rfl | exact alNew (by simp) | refine alOld ?_ | refine (hb.block _ (by first | (simp; done) | (simp; omega))).trans ?_))).mono ?_; rintro e w5 ⟨rfl, hb5⟩; have hb6 : Below wr.heap.size wr w5 := ext_next hb5 (by repeat (with_reducible first | exact Below.refl _ _ | assumption | (refine ext_next (by assumption) ?_) | apply ext_alloc | apply ext_past | apply ext_drew | apply ext_drewN)); have HB5 := Lib.hid hb6; have QQ := HQH.out w5 hb6; clear hb5)
  (try go_wp2_with fail)
  refine hK.out _ _ ?_ (fun hHeld => ?_)
  · (try dsimp only)
    (first | exact QQ | exact HQH.out _ (by repeat (with_reducible first | exact Below.refl _ _ | assumption | (refine ext_next (by assumption) ?_) | apply ext_alloc | apply ext_past | apply ext_drew | apply ext_drewN)))
  clear hK K
  (try simp only [Act.put, List.setIfInBounds_toArray, List.set_cons_zero, List.set_cons_succ])
  refine takeH (i := 12) (v := ?_) rfl (by kernel_rfl) (by kernel_rfl) (by kernel_rfl) (fun _ _ _ h => h) (Or.inl ⟨by rfl, ?_⟩) (by assumption) ?_
  rotate_left
  · ((intro w hSw; (try dsimp only at hSw); go_simp) <;> with_reducible rfl)
  (try simp only [Act.put, List.setIfInBounds_toArray, List.set_cons_zero, List.set_cons_succ])
  refine takeH (i := 13) (v := ?_) rfl (by kernel_rfl) (by kernel_rfl) (by kernel_rfl) (fun _ _ _ h => h) (Or.inl ⟨by rfl, ?_⟩) (by assumption) ?_
  rotate_left
  · ((intro w hSw; (try dsimp only at hSw); go_simp) <;> with_reducible rfl)
  (try simp only [Act.put, List.setIfInBounds_toArray, List.set_cons_zero, List.set_cons_succ])
  refine takeH (i := 14) (v := ?_) rfl (by kernel_rfl) (by kernel_rfl) (by kernel_rfl) (fun _ _ _ h => h) (Or.inl ⟨by rfl, ?_⟩) (by assumption) ?_
  rotate_left
  · ((intro w hSw; (try dsimp only at hSw); go_simp) <;> with_reducible rfl)
  (try simp only [Act.put, List.setIfInBounds_toArray, List.set_cons_zero, List.set_cons_succ])
  refine takeH (i := 15) (v := ?_) rfl (by kernel_rfl) (by kernel_rfl) (by kernel_rfl) (fun _ _ _ h => h) (Or.inl ⟨by rfl, ?_⟩) (by assumption) ?_
  rotate_left
  · ((intro w hSw; (try dsimp only at hSw); go_simp) <;> with_reducible rfl)
  (try simp only [Act.put, List.setIfInBounds_toArray, List.set_cons_zero, List.set_cons_succ])
  refine takeH (i := 16) (v := ?_) rfl (by kernel_rfl) (by kernel_rfl) (by kernel_rfl) (fun _ _ _ h => h) (Or.inl ⟨by rfl, ?_⟩) (by assumption) ?_
  rotate_left
  · ((intro w hSw; (try dsimp only at hSw); go_simp) <;> with_reducible rfl)
  (try simp only [Act.put, List.setIfInBounds_toArray, List.set_cons_zero, List.set_cons_succ])
  refine takeH (i := 17) (v := ?_) rfl (by kernel_rfl) (by kernel_rfl) (by kernel_rfl) (fun _ _ _ h => h) (Or.inl ⟨by rfl, ?_⟩) (by assumption) ?_
  rotate_left
  · ((intro w hSw; (try dsimp only at hSw); go_simp) <;> with_reducible rfl)
  (try simp only [Act.put, List.setIfInBounds_toArray, List.set_cons_zero, List.set_cons_succ])
  refine takeH (i := 18) (v := undef) rfl (by kernel_rfl) (by kernel_rfl) (by kernel_rfl) (fun _ _ _ h => h) (Or.inr ⟨by rfl, rfl⟩) (by assumption) ?_
  (try simp only [Act.put, List.setIfInBounds_toArray, List.set_cons_zero, List.set_cons_succ])
  refine takeH (i := 19) (v := undef) rfl (by kernel_rfl) (by kernel_rfl) (by kernel_rfl) (fun _ _ _ h => h) (Or.inr ⟨by rfl, rfl⟩) (by assumption) ?_
  (try simp only [Act.put, List.setIfInBounds_toArray, List.set_cons_zero, List.set_cons_succ])
  refine takeH (i := 20) (v := undef) rfl (by kernel_rfl) (by kernel_rfl) (by kernel_rfl) (fun _ _ _ h => h) (Or.inr ⟨by rfl, rfl⟩) (by assumption) ?_
  (try simp only [Act.put, List.setIfInBounds_toArray, List.set_cons_zero, List.set_cons_succ])
  refine takeH (i := 21) (v := ?_) rfl (by kernel_rfl) (by kernel_rfl) (by kernel_rfl) (fun _ _ _ h => h) (Or.inl ⟨by rfl, ?_⟩) (by assumption) ?_
  rotate_left
  · ((intro w hSw; (try dsimp only at hSw); go_simp) <;> with_reducible rfl)
  (try simp only [Act.put, List.setIfInBounds_toArray, List.set_cons_zero, List.set_cons_succ])
  refine takeH (i := 22) (v := ?_) rfl (by kernel_rfl) (by kernel_rfl) (by kernel_rfl) (fun _ _ _ h => h) (Or.inl ⟨by rfl, ?_⟩) (by assumption) ?_
  rotate_left
  · ((intro w hSw; (try dsimp only at hSw); go_simp) <;> with_reducible rfl)
  (try simp only [Act.put, List.setIfInBounds_toArray, List.set_cons_zero, List.set_cons_succ])
  refine wpAnyH_done (by kernel_rfl) ?_ _
  refine NoPanic.normal ?_
  (try go_wp2_with fail)
  go_meet
  exact ⟨rfl, HB5⟩

end Go.Proofs.YtkobeajbiendlaaDoor
