/- What this text holds: a word more of a world whose words are being made. No condition. -/
import Derived.Test.YtkobeajbiendlaaDoorVd11
import Derived.Deep.RegionLaw
import Derived.Deep.RegionHeld3
namespace Go.Proofs.YtkobeajbiendlaaDoor
open Go.RowKit

set_option maxRecDepth 100000 in
set_option maxHeartbeats 4000000 in
theorem kq_word {c : Cfg} {A B C D : Option Addr} {l : List Pr} {ws os ds : List Int} {c1 c2 c3 c4 : Nat} {w wr : World} {F : Option Addr} {oth : List Int} {c6 bv i gk : Nat} {k : Int} {sx0 sx2 sx4 sx5 sx6 sx10 sx11 sx12 sx13 sx14 sx15 sx16 sx17 sx18 sx19 sx20 sx21 sx22 sx23 sx24 sx25 sx26 sx27 sx28 sx29 sx30 sx31 sx32 sx33 sx34 sx35 sx36 sx37 sx38 sx39 sx40 sx41 sx42 sx43 sx44 sx45 sx46 sx47 sx48 sx83 sx84 sx85 sx86 sx87 sx88 sx89 sx90 sx91 sx92 sx93 sx94 sx95 sx96 sx97 sx98 sx99 sx100 sx101 sx102 sx103 sx104 sx105 sx106 sx107 sx108 sx109 sx110 sx111 sx112 sx113 sx114 sx115 sx116 sx117 sx118 sx119 sx120 sx121 sx122 sx123 sx124 sx125 sx126 sx127 sx128 sx129 sx130 sx131 sx132 sx133 sx134 sx135 sx136 sx137 sx138 sx139 sx140 sx141 sx142 sx143 sx144 sx145 sx146 sx147 sx148 sx149 sx150 sx151 sx152 sx153 sx154 sx155 sx156 sx157 sx158 sx159 sx160 sx161 sx162 sx163 sx164 sx165 sx166 sx167 sx168 sx169 sx170 sx171 sx172 sx173 sx174 sx175 sx176 sx177 sx178 sx179 sx180 sx181 sx182 sx183 sx184 sx185 sx186 sx187 sx188 sx189 sx190 sx191 sx192 sx193 sx194 sx195 sx196 sx197 sx198 sx199 sx200 su49 su50 su51 su52 su53 su54 su55 su56 su57 su58 su59 su60 su61 su62 su63 su64 su65 su66 su67 su68 su69 su70 su71 su72 su73 su74 su75 su76 su77 su78 su79 su80 su81 su82 : Value} {J : Nat → Act → World → Prop} {K : Act → World → Prop} {Q : Exit → Act → World → Prop}
    (HC : Hid (SlI w C os)) (HD : Hid (SlI w D ds)) (HF : Hid (SlI w F oth)) (HV : Hid (Vd w wr bv (vpre k os ds oth i) c A B C D l ws os ds c1 c2 c3 c4)) (HLN : Hid (oth.length = ds.length ∧ ds.length ≤ 80 ∧ ds.length = 4 * os.length))
    (hk : i + gk = ds.length) (hlt : i < ds.length)
    (hJ : ∀ n a' w', (∃ sv9 sv49 sv50 sv51 sv52 sv53 sv54 sv55 sv56 sv57 sv58 sv59 sv60 sv61 sv62 sv63 sv64 sv65 sv66 sv67 sv68 sv69 sv70 sv71 sv72 sv73 sv74 sv75 sv76 sv77 sv78 sv79 sv80 sv81 sv82 : Value, (∃ i : Nat, sv9 = .int .i64 i ∧ i + n = ds.length ∧ Hid (Vd w w' bv (vpre k os ds oth i) c A B C D l ws os ds c1 c2 c3 c4)) ∧ a' = { tmps := #[sx0, .slice F oth.length c6, sx2, .pointer (some ⟨w.heap.size, 0, none⟩), sx4, sx5, sx6, .int .i64 k, .pointer (some ⟨bv, 0, none⟩), sv9, sx10, sx11, sx12, sx13, sx14, sx15, sx16, sx17, sx18, sx19, sx20, sx21, sx22, sx23, sx24, sx25, sx26, sx27, sx28, sx29, sx30, sx31, sx32, sx33, sx34, sx35, sx36, sx37, sx38, sx39, sx40, sx41, sx42, sx43, sx44, sx45, sx46, sx47, sx48, sv49, sv50, sv51, sv52, sv53, sv54, sv55, sv56, sv57, sv58, sv59, sv60, sv61, sv62, sv63, sv64, sv65, sv66, sv67, sv68, sv69, sv70, sv71, sv72, sv73, sv74, sv75, sv76, sv77, sv78, sv79, sv80, sv81, sv82, sx83, sx84, sx85, sx86, sx87, sx88, sx89, sx90, sx91, sx92, sx93, sx94, sx95, sx96, sx97, sx98, sx99, sx100, sx101, sx102, sx103, sx104, sx105, sx106, sx107, sx108, sx109, sx110, sx111, sx112, sx113, sx114, sx115, sx116, sx117, sx118, sx119, sx120, sx121, sx122, sx123, sx124, sx125, sx126, sx127, sx128, sx129, sx130, sx131, sx132, sx133, sx134, sx135, sx136, sx137, sx138, sx139, sx140, sx141, sx142, sx143, sx144, sx145, sx146, sx147, sx148, sx149, sx150, sx151, sx152, sx153, sx154, sx155, sx156, sx157, sx158, sx159, sx160, sx161, sx162, sx163, sx164, sx165, sx166, sx167, sx168, sx169, sx170, sx171, sx172, sx173, sx174, sx175, sx176, sx177, sx178, sx179, sx180, sx181, sx182, sx183, sx184, sx185, sx186, sx187, sx188, sx189, sx190, sx191, sx192, sx193, sx194, sx195, sx196, sx197, sx198, sx199, sx200], defers := [] }) → J n a' w') (hK : ∀ a' w', Handed J gk a' w' → K a' w') :
    (lp Tryd.f7 1).wp Tryd.prog (Exit.then K Q) { tmps := #[sx0, .slice F oth.length c6, sx2, .pointer (some ⟨w.heap.size, 0, none⟩), sx4, sx5, sx6, .int .i64 k, .pointer (some ⟨bv, 0, none⟩), .int .i64 i, sx10, sx11, sx12, sx13, sx14, sx15, sx16, sx17, sx18, sx19, sx20, sx21, sx22, sx23, sx24, sx25, sx26, sx27, sx28, sx29, sx30, sx31, sx32, sx33, sx34, sx35, sx36, sx37, sx38, sx39, sx40, sx41, sx42, sx43, sx44, sx45, sx46, sx47, sx48, su49, su50, su51, su52, su53, su54, su55, su56, su57, su58, su59, su60, su61, su62, su63, su64, su65, su66, su67, su68, su69, su70, su71, su72, su73, su74, su75, su76, su77, su78, su79, su80, su81, su82, sx83, sx84, sx85, sx86, sx87, sx88, sx89, sx90, sx91, sx92, sx93, sx94, sx95, sx96, sx97, sx98, sx99, sx100, sx101, sx102, sx103, sx104, sx105, sx106, sx107, sx108, sx109, sx110, sx111, sx112, sx113, sx114, sx115, sx116, sx117, sx118, sx119, sx120, sx121, sx122, sx123, sx124, sx125, sx126, sx127, sx128, sx129, sx130, sx131, sx132, sx133, sx134, sx135, sx136, sx137, sx138, sx139, sx140, sx141, sx142, sx143, sx144, sx145, sx146, sx147, sx148, sx149, sx150, sx151, sx152, sx153, sx154, sx155, sx156, sx157, sx158, sx159, sx160, sx161, sx162, sx163, sx164, sx165, sx166, sx167, sx168, sx169, sx170, sx171, sx172, sx173, sx174, sx175, sx176, sx177, sx178, sx179, sx180, sx181, sx182, sx183, sx184, sx185, sx186, sx187, sx188, sx189, sx190, sx191, sx192, sx193, sx194, sx195, sx196, sx197, sx198, sx199, sx200], defers := [] } wr := by
  conv => arg 2; whnf
  obtain ⟨i0, hi, hz0, hz1, hz2⟩ := info_parts info_int11
  obtain ⟨G, cf, hbx, hrow⟩ := HV.out.bx
  rw [vpre_len] at hbx hrow
  have HG := Lib.hid (And.intro hbx hrow)
  obtain ⟨t0, t1, t2, t3, t4, t5, t6, t7, t8, t9, t10⟩ := eleven_at HV.out.wb.box
  obtain ⟨s0, s1, s2, s3, s4, s5, s6, s7, s8, s9, s10⟩ := eleven_at hbx
  have tl := lt_of HV.out.wb.box
  have sl := lt_of hbx
  have sf : ∀ o, wr.frozen? ⟨bv, o, none⟩ = false := fun o => by simp [World.frozen?, hbx]
  have ek : decide ((i : Int) < (ds.length : Int)) = true := by simp; omega
  have ek2 : decide (i < ds.length) = true := by simpa using hlt
  have hi80 : (i : Int) ≤ 80 := by have := HLN.out; omega
  have hil : (i : Int) < (ds.length : Int) := by omega
  obtain ⟨jd, hjd⟩ : ∃ j, j = i / 4 := ⟨_, rfl⟩
  have hq : (i : Int) / 4 = (jd : Int) := by omega
  have hjl : jd < os.length := by have := HLN.out; omega
  have hjl' : (jd : Int) < (os.length : Int) := by omega
  obtain ⟨bC, oC, hCC, hbC, hcC⟩ := HC.out (by omega)
  have yC := (HV.out.wb.be.cell (p := ⟨bC, oC + jd, none⟩) hbC).trans (hcC jd hjl)
  have lC := Nat.lt_of_lt_of_le hbC HV.out.wb.be.size
  obtain ⟨bD, oD, hDD, hbD, hcD⟩ := HD.out (by omega)
  have yD := (HV.out.wb.be.cell (p := ⟨bD, oD + i, none⟩) hbD).trans (hcD i hlt)
  have lD := Nat.lt_of_lt_of_le hbD HV.out.wb.be.size
  obtain ⟨bF, oF, hFF, hbF, hcF⟩ := HF.out (by have := HLN.out; omega)
  have yF := (HV.out.wb.be.cell (p := ⟨bF, oF + i, none⟩) hbF).trans (hcF i (by have := HLN.out; omega))
  have lF := Nat.lt_of_lt_of_le hbF HV.out.wb.be.size
  have hif : (i : Int) < (oth.length : Int) := by have := HLN.out; omega
  obtain ⟨ov, hov⟩ : ∃ v, v = os[jd]?.getD 0 := ⟨_, rfl⟩
  obtain ⟨dv, hdv⟩ : ∃ v, v = ds[i]?.getD 0 := ⟨_, rfl⟩
  obtain ⟨fv, hfv⟩ : ∃ v, v = oth[i]?.getD 0 := ⟨_, rfl⟩
  rw [← hov] at yC
  rw [← hdv] at yD
  rw [← hfv] at yF
  have HAT := Lib.hid (show vat k os ds oth i = if mayT k ov then dv else fv from by unfold vat; rw [← hjd, ← hov, ← hdv, ← hfv])
  have HLT := Lib.hid (And.intro hk hlt)
  have HTM := Lib.hid (fun W => tmay_any k ov W)
  obtain ⟨mb, hmb⟩ : ∃ m, m = mayT k ov := ⟨_, rfl⟩
  rw [← hmb] at HTM HAT
  have HI80 := Lib.hid (show i + 1 ≤ 100 by have := HLN.out; omega)
  have HSZ := Lib.hid (show bv + 1 ≤ wr.heap.size from sl)
  subst hCC hDD hFF
  clear hbx hrow hk hlt hjd hov hdv hfv hmb hcC hcD hcF hjl
  go_wp2_with fail
  refine (HTM.out wr).mono ?_
  rintro e w1 ⟨rfl, hw⟩
  subst hw
  cases mb
  · have HAT := Lib.hid (show vat k os ds oth i = fv from HAT.out)
    go_wp2_with fail
    have HO : Hid ((w1.drew.alloc (.cells #[.int .i64 fv] 3)).ownsRow (bv + 1) 3 1 (.slice G i cf) i ((vpre k os ds oth i).map (Value.int .i64))) := Lib.hid (row_keep HG.out.2 (fun q hq => Below.heap_alloc _ _ _ (HG.out.2.lt q hq).2))
    have HNw : Hid (∀ j u, [Value.int .i64 fv][j]? = some u → (w1.drew.alloc (.cells #[.int .i64 fv] 3)).cell? ((⟨w1.heap.size, 0, none⟩ : Addr).add j) = some u) := Lib.hid (fun j u hu => by
      rw [Addr.add_lit, Nat.zero_add]
      unfold World.cell?
      rw [show (w1.drew.alloc (.cells #[.int .i64 fv] 3)).heap[w1.heap.size]? = _ from alNew rfl]
      simpa using hu)
    refine wp_region_noPanic ?_
    go_region_law (refine step_append_full _ rfl (.tmp 75) (.tmp 80) 67 rfl (bv + 1) 3 i0 (.int .i64 0) 1 8 Tryd.underlying67 hi hz0 hz1 hz2 rfl (by decide) (.slice G i cf) i ((vpre k os ds oth i).map (Value.int .i64)) (by simp [Act.eval]) HO.out (some ⟨w1.heap.size, 0, none⟩) 1 1 [.int .i64 fv] (by simp [Act.eval]) (fun e => by cases e) rfl (fun ad e => by cases e; exact HNw.out) (by intro u hu; simp at hu; subst hu; rfl) (by have := HI80.out; unfold maxLen; omega) (by have := HI80.out; omega) (by have := HSZ.out; simp; omega) ?_; intro A3 c7 w2 h3 ho hg hf3; have hk9 := (hg.block bv (by simp; omega) (fun e => by have := (HG.out.2.lt bv e.symm).1; omega)).trans (Below.heap_alloc _ _ _ sl); have q10 := (World.cell?_of_block (a := ⟨bv, 10, none⟩) hk9).trans s10; have qf := (World.frozen?_of_block (a := ⟨bv, 10, none⟩) hk9).trans (sf 10); have HG2 := Lib.hid (And.intro ho hg); clear ho hg hf3 h3 hk9)
    all_goals
      have HV2 := Lib.hid (show Vd w (w2.setCell ⟨bv, 10, none⟩ (.slice A3 (i + 1) c7)) bv (vpre k os ds oth (i + 1)) c A B (some ⟨bC, oC, none⟩) (some ⟨bD, oD, none⟩) l ws os ds c1 c2 c3 c4 by unfold vpre; rw [HAT.out]; exact HV.out.next (vpre_len _ _ _ _ _) HG.out.1 HG.out.2 fv HG2.out.1 HG2.out.2)
      go_wp2_with fail
      refine NoPanic.normal ?_
      go_wp2_with fail
      go_roundg (ds.length - (i + 1))
      case measure => have := HLT.out; omega
      case rel => exact ⟨i + 1, by go_num, by have := HLT.out; omega, HV2⟩
  · have HAT := Lib.hid (show vat k os ds oth i = dv from HAT.out)
    go_wp2_with fail
    have HO : Hid ((w1.drew.alloc (.cells #[.int .i64 dv] 3)).ownsRow (bv + 1) 3 1 (.slice G i cf) i ((vpre k os ds oth i).map (Value.int .i64))) := Lib.hid (row_keep HG.out.2 (fun q hq => Below.heap_alloc _ _ _ (HG.out.2.lt q hq).2))
    have HNw : Hid (∀ j u, [Value.int .i64 dv][j]? = some u → (w1.drew.alloc (.cells #[.int .i64 dv] 3)).cell? ((⟨w1.heap.size, 0, none⟩ : Addr).add j) = some u) := Lib.hid (fun j u hu => by
      rw [Addr.add_lit, Nat.zero_add]
      unfold World.cell?
      rw [show (w1.drew.alloc (.cells #[.int .i64 dv] 3)).heap[w1.heap.size]? = _ from alNew rfl]
      simpa using hu)
    refine wp_region_noPanic ?_
    go_region_law (refine step_append_full _ rfl (.tmp 65) (.tmp 71) 67 rfl (bv + 1) 3 i0 (.int .i64 0) 1 8 Tryd.underlying67 hi hz0 hz1 hz2 rfl (by decide) (.slice G i cf) i ((vpre k os ds oth i).map (Value.int .i64)) (by simp [Act.eval]) HO.out (some ⟨w1.heap.size, 0, none⟩) 1 1 [.int .i64 dv] (by simp [Act.eval]) (fun e => by cases e) rfl (fun ad e => by cases e; exact HNw.out) (by intro u hu; simp at hu; subst hu; rfl) (by have := HI80.out; unfold maxLen; omega) (by have := HI80.out; omega) (by have := HSZ.out; simp; omega) ?_; intro A3 c7 w2 h3 ho hg hf3; have hk9 := (hg.block bv (by simp; omega) (fun e => by have := (HG.out.2.lt bv e.symm).1; omega)).trans (Below.heap_alloc _ _ _ sl); have q10 := (World.cell?_of_block (a := ⟨bv, 10, none⟩) hk9).trans s10; have qf := (World.frozen?_of_block (a := ⟨bv, 10, none⟩) hk9).trans (sf 10); have HG2 := Lib.hid (And.intro ho hg); clear ho hg hf3 h3 hk9)
    all_goals
      have HV2 := Lib.hid (show Vd w (w2.setCell ⟨bv, 10, none⟩ (.slice A3 (i + 1) c7)) bv (vpre k os ds oth (i + 1)) c A B (some ⟨bC, oC, none⟩) (some ⟨bD, oD, none⟩) l ws os ds c1 c2 c3 c4 by unfold vpre; rw [HAT.out]; exact HV.out.next (vpre_len _ _ _ _ _) HG.out.1 HG.out.2 dv HG2.out.1 HG2.out.2)
      go_wp2_with fail
      refine NoPanic.normal ?_
      go_wp2_with fail
      go_roundg (ds.length - (i + 1))
      case measure => have := HLT.out; omega
      case rel => exact ⟨i + 1, by go_num, by have := HLT.out; omega, HV2⟩

end Go.Proofs.YtkobeajbiendlaaDoor
