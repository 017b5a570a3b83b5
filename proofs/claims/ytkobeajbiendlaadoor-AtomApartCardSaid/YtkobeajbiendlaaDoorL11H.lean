/- What this text holds: a round of the steps of two machines side by side. No condition. -/
import Derived.Test.YtkobeajbiendlaaDoorL11D
import Derived.Test.YtkobeajbiendlaaDoorL11G
import Derived.Test.YtkobeajbiendlaaDoorL11I
import Derived.Test.YtkobeajbiendlaaDoorVd11
import Derived.Deep.CutRange
namespace Go.Proofs.YtkobeajbiendlaaDoor
open Go.RowKit

/-- Two machines side by side, that agree. -/
structure As (w wr : World) (lo hi p lo2 hi2 p2 : Nat) (M N : Ma) (k : Int) (c : Cfg) (A B C D : Option Addr) (l : List Pr) (ws os ds : List Int) (c1 c2 c3 c4 : Nat) : Prop where
  a : Lw w wr lo hi p M c A B C D l ws os ds c1 c2 c3 c4
  b : Lw w wr lo2 hi2 p2 N c A B C D l ws os ds c1 c2 c3 c4
  ap : hi ≤ lo2
  tw : Twn M N
  ag : Agr M N k
theorem neqEv11 (w : World) (a b c d x y z : Int) : (binOp .neq 42 (.agg #[.int .i64 a, .int .i64 b, .int .i64 c, .int .i64 d, .int .i64 x, .int .i64 y, .int .i64 z]) (.agg #[.int .i64 a, .int .i64 b, .int .i64 c, .int .i64 d, .int .i64 x, .int .i64 y, .int .i64 z])).run Tryd.prog w = .ok (.bool false) w := by
  go_simp
set_option maxRecDepth 100000 in
set_option maxHeartbeats 8000000 in
theorem kq_step {c : Cfg} {A B C D : Option Addr} {l : List Pr} {ws os ds : List Int} {c1 c2 c3 c4 : Nat} {w wr : World} {E : Option Addr} {tl : List (Int × Bool)} {c5 lo hi p lo2 hi2 p2 i gk : Nat} {M N : Ma} {k : Int} {sx0 sx1 sx4 sx5 sx8 sx9 sx11 sx13 sx21 sx22 sx23 sx24 sx25 sx26 sx27 sx28 sx29 sx30 sx31 sx32 sx33 sx34 sx35 sx36 sx37 sx38 sx39 sx40 sx41 sx42 sx43 sx44 sx45 sx46 sx47 sx48 sx49 sx50 sx51 sx52 sx53 sx54 sx55 sx56 sx57 sx58 sx59 sx60 sx61 sx62 sx63 sx64 sx65 sx66 sx67 sx68 sx69 sx70 sx71 sx72 sx73 sx74 sx75 sx76 sx77 sx78 sx79 sx80 sx81 sx82 sx83 sx84 sx85 sx86 sx87 sx88 sx89 sx90 sx91 sx92 sx93 sx94 sx95 sx96 sx97 sx98 sx99 sx100 sx101 sx102 sx103 sx104 sx105 sx106 sx107 sx108 sx109 sx110 sx111 sx112 sx113 sx114 sx115 sx200 su6 su15 su16 su17 su18 su19 su20 su116 su117 su118 su119 su120 su121 su122 su123 su124 su125 su126 su127 su128 su129 su130 su131 su132 su133 su134 su135 su136 su137 su138 su139 su140 su141 su142 su143 su144 su145 su146 su147 su148 su149 su150 su151 su152 su153 su154 su155 su156 su157 su158 su159 su160 su161 su162 su163 su164 su165 su166 su167 su168 su169 su170 su171 su172 su173 su174 su175 su176 su177 su178 su179 su180 su181 su182 su183 su184 su185 su186 su187 su188 su189 su190 su191 su192 su193 su194 su195 su196 su197 su198 su199 : Value} {J : Nat → Act → World → Prop} {K : Act → World → Prop} {Q : Exit → Act → World → Prop}
    (HL : Hid (Lims w)) (HE : Hid (SlT w E tl)) (HK3 : Hid (1 ≤ k ∧ k ≤ 3)) (HS : Hid (As w wr lo hi p lo2 hi2 p2 M N k c A B C D l ws os ds c1 c2 c3 c4)) (H60 : Hid (tl.length ≤ 60)) (hk : i + gk = tl.length) (hlt : i < tl.length)
    (hJ : ∀ n a' w', (∃ sv6 sv14 sv15 sv16 sv17 sv18 sv19 sv20 sv116 sv117 sv118 sv119 sv120 sv121 sv122 sv123 sv124 sv125 sv126 sv127 sv128 sv129 sv130 sv131 sv132 sv133 sv134 sv135 sv136 sv137 sv138 sv139 sv140 sv141 sv142 sv143 sv144 sv145 sv146 sv147 sv148 sv149 sv150 sv151 sv152 sv153 sv154 sv155 sv156 sv157 sv158 sv159 sv160 sv161 sv162 sv163 sv164 sv165 sv166 sv167 sv168 sv169 sv170 sv171 sv172 sv173 sv174 sv175 sv176 sv177 sv178 sv179 sv180 sv181 sv182 sv183 sv184 sv185 sv186 sv187 sv188 sv189 sv190 sv191 sv192 sv193 sv194 sv195 sv196 sv197 sv198 sv199 : Value, (∃ (i : Nat) (M N : Ma), sv14 = .int .i64 i ∧ i + n = tl.length ∧ Hid (As w w' lo hi p lo2 hi2 p2 M N k c A B C D l ws os ds c1 c2 c3 c4)) ∧ a' = { tmps := #[sx0, sx1, .slice E tl.length c5, .pointer (some ⟨w.heap.size, 0, none⟩), sx4, sx5, sv6, .int .i64 k, sx8, sx9, .pointer (some ⟨p, 0, none⟩), sx11, .pointer (some ⟨p2, 0, none⟩), sx13, sv14, sv15, sv16, sv17, sv18, sv19, sv20, sx21, sx22, sx23, sx24, sx25, sx26, sx27, sx28, sx29, sx30, sx31, sx32, sx33, sx34, sx35, sx36, sx37, sx38, sx39, sx40, sx41, sx42, sx43, sx44, sx45, sx46, sx47, sx48, sx49, sx50, sx51, sx52, sx53, sx54, sx55, sx56, sx57, sx58, sx59, sx60, sx61, sx62, sx63, sx64, sx65, sx66, sx67, sx68, sx69, sx70, sx71, sx72, sx73, sx74, sx75, sx76, sx77, sx78, sx79, sx80, sx81, sx82, sx83, sx84, sx85, sx86, sx87, sx88, sx89, sx90, sx91, sx92, sx93, sx94, sx95, sx96, sx97, sx98, sx99, sx100, sx101, sx102, sx103, sx104, sx105, sx106, sx107, sx108, sx109, sx110, sx111, sx112, sx113, sx114, sx115, sv116, sv117, sv118, sv119, sv120, sv121, sv122, sv123, sv124, sv125, sv126, sv127, sv128, sv129, sv130, sv131, sv132, sv133, sv134, sv135, sv136, sv137, sv138, sv139, sv140, sv141, sv142, sv143, sv144, sv145, sv146, sv147, sv148, sv149, sv150, sv151, sv152, sv153, sv154, sv155, sv156, sv157, sv158, sv159, sv160, sv161, sv162, sv163, sv164, sv165, sv166, sv167, sv168, sv169, sv170, sv171, sv172, sv173, sv174, sv175, sv176, sv177, sv178, sv179, sv180, sv181, sv182, sv183, sv184, sv185, sv186, sv187, sv188, sv189, sv190, sv191, sv192, sv193, sv194, sv195, sv196, sv197, sv198, sv199, sx200], defers := [] }) → J n a' w') (hK : ∀ a' w', Handed J gk a' w' → K a' w')
    (hX : ∀ a' w', (∃ sv6 sv14 sv15 sv16 sv17 sv18 sv19 sv20 sv116 sv117 sv118 sv119 sv120 sv121 sv122 sv123 sv124 sv125 sv126 sv127 sv128 sv129 sv130 sv131 sv132 sv133 sv134 sv135 sv136 sv137 sv138 sv139 sv140 sv141 sv142 sv143 sv144 sv145 sv146 sv147 sv148 sv149 sv150 sv151 sv152 sv153 sv154 sv155 sv156 sv157 sv158 sv159 sv160 sv161 sv162 sv163 sv164 sv165 sv166 sv167 sv168 sv169 sv170 sv171 sv172 sv173 sv174 sv175 sv176 sv177 sv178 sv179 sv180 sv181 sv182 sv183 sv184 sv185 sv186 sv187 sv188 sv189 sv190 sv191 sv192 sv193 sv194 sv195 sv196 sv197 sv198 sv199 : Value, Hid (Wb w w' w.heap.size c A B C D l ws os ds c1 c2 c3 c4) ∧ a' = { tmps := #[sx0, sx1, .slice E tl.length c5, .pointer (some ⟨w.heap.size, 0, none⟩), sx4, sx5, sv6, .int .i64 k, sx8, sx9, .pointer (some ⟨p, 0, none⟩), sx11, .pointer (some ⟨p2, 0, none⟩), sx13, sv14, sv15, sv16, sv17, sv18, sv19, sv20, sx21, sx22, sx23, sx24, sx25, sx26, sx27, sx28, sx29, sx30, sx31, sx32, sx33, sx34, sx35, sx36, sx37, sx38, sx39, sx40, sx41, sx42, sx43, sx44, sx45, sx46, sx47, sx48, sx49, sx50, sx51, sx52, sx53, sx54, sx55, sx56, sx57, sx58, sx59, sx60, sx61, sx62, sx63, sx64, sx65, sx66, sx67, sx68, sx69, sx70, sx71, sx72, sx73, sx74, sx75, sx76, sx77, sx78, sx79, sx80, sx81, sx82, sx83, sx84, sx85, sx86, sx87, sx88, sx89, sx90, sx91, sx92, sx93, sx94, sx95, sx96, sx97, sx98, sx99, sx100, sx101, sx102, sx103, sx104, sx105, sx106, sx107, sx108, sx109, sx110, sx111, sx112, sx113, sx114, sx115, sv116, sv117, sv118, sv119, sv120, sv121, sv122, sv123, sv124, sv125, sv126, sv127, sv128, sv129, sv130, sv131, sv132, sv133, sv134, sv135, sv136, sv137, sv138, sv139, sv140, sv141, sv142, sv143, sv144, sv145, sv146, sv147, sv148, sv149, sv150, sv151, sv152, sv153, sv154, sv155, sv156, sv157, sv158, sv159, sv160, sv161, sv162, sv163, sv164, sv165, sv166, sv167, sv168, sv169, sv170, sv171, sv172, sv173, sv174, sv175, sv176, sv177, sv178, sv179, sv180, sv181, sv182, sv183, sv184, sv185, sv186, sv187, sv188, sv189, sv190, sv191, sv192, sv193, sv194, sv195, sv196, sv197, sv198, sv199, sx200], defers := [] }) → Q (.exit 4) a' w') :
    (lp Tryd.f7 2).wp Tryd.prog (Exit.then K Q) { tmps := #[sx0, sx1, .slice E tl.length c5, .pointer (some ⟨w.heap.size, 0, none⟩), sx4, sx5, su6, .int .i64 k, sx8, sx9, .pointer (some ⟨p, 0, none⟩), sx11, .pointer (some ⟨p2, 0, none⟩), sx13, .int .i64 i, su15, su16, su17, su18, su19, su20, sx21, sx22, sx23, sx24, sx25, sx26, sx27, sx28, sx29, sx30, sx31, sx32, sx33, sx34, sx35, sx36, sx37, sx38, sx39, sx40, sx41, sx42, sx43, sx44, sx45, sx46, sx47, sx48, sx49, sx50, sx51, sx52, sx53, sx54, sx55, sx56, sx57, sx58, sx59, sx60, sx61, sx62, sx63, sx64, sx65, sx66, sx67, sx68, sx69, sx70, sx71, sx72, sx73, sx74, sx75, sx76, sx77, sx78, sx79, sx80, sx81, sx82, sx83, sx84, sx85, sx86, sx87, sx88, sx89, sx90, sx91, sx92, sx93, sx94, sx95, sx96, sx97, sx98, sx99, sx100, sx101, sx102, sx103, sx104, sx105, sx106, sx107, sx108, sx109, sx110, sx111, sx112, sx113, sx114, sx115, su116, su117, su118, su119, su120, su121, su122, su123, su124, su125, su126, su127, su128, su129, su130, su131, su132, su133, su134, su135, su136, su137, su138, su139, su140, su141, su142, su143, su144, su145, su146, su147, su148, su149, su150, su151, su152, su153, su154, su155, su156, su157, su158, su159, su160, su161, su162, su163, su164, su165, su166, su167, su168, su169, su170, su171, su172, su173, su174, su175, su176, su177, su178, su179, su180, su181, su182, su183, su184, su185, su186, su187, su188, su189, su190, su191, su192, su193, su194, su195, su196, su197, su198, su199, sx200], defers := [] } wr := by
  conv => arg 2; whnf
  obtain ⟨b, off, hEE, hbl, hcs⟩ := HE.out (by omega)
  have hbe := HS.out.a.wb.be
  have y0 := (hbe.cell (p := ⟨b, off + i * 2, none⟩) hbl).trans (hcs i hlt).1
  have y1 := (hbe.cell (p := ⟨b, off + i * 2 + 1, none⟩) hbl).trans (hcs i hlt).2
  have hbr := Nat.lt_of_lt_of_le hbl hbe.size
  have hil : (i : Int) < (tl.length : Int) := by omega
  have hi60 : (i : Int) ≤ 60 := by have := H60.out; omega
  have ek : decide ((i : Int) < (tl.length : Int)) = true := by simpa using hil
  have ek2 : decide (i < tl.length) = true := by simpa using hlt
  have HLT := Lib.hid (And.intro hk hlt)
  have HBL := Lib.hid (show b < w.heap.size ∧ b < wr.heap.size ∧ b < lo ∧ b < lo2 from ⟨hbl, hbr, Nat.lt_trans hbl HS.out.a.hl, Nat.lt_trans hbl HS.out.b.hl⟩)
  have HLm := Lib.hid (fun (V : World) (hb : Below w.heap.size w V) => HL.out.ext hb)
  have hap := apart_step HS.out.tw HS.out.ag HS.out.a.gd HS.out.b.gd HK3.out (atT tl i).1 (atT tl i).2
  have hcr := acore_all HS.out.a.mc (atT tl i).1
  have hs1 := fun (W : World) (m : Mc W lo hi p M) (hl : Lims W) => astep_all m HS.out.a.gd hl (atT tl i).1 (atT tl i).2
  have hs2 := fun (W : World) (m : Mc W lo2 hi2 p2 N) (hl : Lims W) => astep_all m HS.out.b.gd hl (atT tl i).1 (atT tl i).2
  have hg1 := HS.out.a.gd.stepA (atT tl i).1 (atT tl i).2
  have hg2 := HS.out.b.gd.stepA (atT tl i).1 (atT tl i).2
  have hc1 := stepA_c M (atT tl i).1 (atT tl i).2
  have hc2 := stepA_c N (atT tl i).1 (atT tl i).2
  have hv1 := ev_bound M HS.out.a.gd (atT tl i).1 (atT tl i).2
  have hv2 := ev_bound N HS.out.b.gd (atT tl i).1 (atT tl i).2
  generalize M.stepA (atT tl i).1 (atT tl i).2 = r1 at hap hs1 hg1 hc1 hv1
  generalize N.stepA (atT tl i).1 (atT tl i).2 = r2 at hap hs2 hg2 hc2 hv2
  obtain ⟨⟨a0, a1, a2, a3, a4, a5, a6⟩, fa, M1⟩ := r1
  obtain ⟨⟨b0, b1, b2, b3, b4, b5, b6⟩, fb, N1⟩ := r2
  generalize M.coreA (atT tl i).1 = cr at hap hcr
  obtain ⟨cs, ce⟩ := cr
  generalize atT tl i = tk at y0 y1 hcr hs1 hs2
  obtain ⟨tx, tb⟩ := tk
  dsimp only at y0 y1 hap hcr hs1 hs2 hg1 hg2 hc1 hc2 hv1 hv2
  have HY := Lib.hid (And.intro y0 y1)
  have HAP := Lib.hid hap
  have HS1 := Lib.hid hs1
  have HS2 := Lib.hid hs2
  have HG1 := Lib.hid hg1
  have HG2 := Lib.hid hg2
  have HC1 := Lib.hid hc1
  have HC2 := Lib.hid hc2
  have HV1 := Lib.hid hv1
  have HV2 := Lib.hid hv2
  have HCR := Lib.hid hcr
  subst hEE
  clear hap hs1 hs2 hg1 hg2 hc1 hc2 hv1 hv2 hcr hbe hk hlt hcs
  go_wp2_with fail
  refine HCR.out.mono ?_
  rintro e w1 ⟨rfl, hb⟩
  have HSA := Lib.hid (And.intro (HS.out.a.ext hb) (HS.out.b.ext hb))
  have HB1 := Lib.hid hb
  clear hb y0 y1 hbl hbr
  go_upto_region 22 with (fail)
  obtain ⟨W2, hW2⟩ : ∃ W, W = w1.alloc (.cells #[.int .i64 (cs.r 0), .int .i64 (cs.r 1), .int .i64 (cs.r 2), .int .i64 (cs.r 3), .int .i64 cs.a, .int .i64 cs.wo, .bool cs.ov] 32) := ⟨_, rfl⟩
  rw [← hW2]
  have hX2 : W2.heap[w1.heap.size]? = some (.cells #[.int .i64 (cs.r 0), .int .i64 (cs.r 1), .int .i64 (cs.r 2), .int .i64 (cs.r 3), .int .i64 cs.a, .int .i64 cs.wo, .bool cs.ov] 32 (0, 0)) := by rw [hW2]; exact alNew rfl
  have hB2 : Below w1.heap.size w1 W2 := by rw [hW2]; exact ext_alloc _ (Below.refl _ _)
  have HX2 := Lib.hid hX2
  have HA2 := Lib.hid (HSA.out.1.ext hB2)
  have HB2 := Lib.hid (HSA.out.2.ext hB2)
  have HM2 := Lib.hid HA2.out.mc
  have hyc := (HA2.out.wb.be)
  have HT2 := Lib.hid (show W2.cell? ⟨b, off + i * 2, none⟩ = some (.int .i64 tx) ∧ W2.cell? ⟨b, off + i * 2 + 1, none⟩ = some (.bool tb) ∧ b < W2.heap.size ∧ i < tl.length ∧ tl.length ≤ 60 from
    ⟨(hB2.cell (p := ⟨b, off + i * 2, none⟩) (Nat.lt_of_lt_of_le HBL.out.2.1 HB1.out.size)).trans ((HB1.out.cell (p := ⟨b, off + i * 2, none⟩) HBL.out.2.1).trans HY.out.1),
     (hB2.cell (p := ⟨b, off + i * 2 + 1, none⟩) (Nat.lt_of_lt_of_le HBL.out.2.1 HB1.out.size)).trans ((HB1.out.cell (p := ⟨b, off + i * 2 + 1, none⟩) HBL.out.2.1).trans HY.out.2),
     Nat.lt_of_lt_of_le HBL.out.1 hyc.size, HLT.out.2, H60.out⟩)
  have HST := Lib.hid (fun (W : World) (hb : Below W2.heap.size W2 W) => HS1.out W (HM2.out.ext hb) (HLm.out W (ext_trans HA2.out.wb.be hb)))
  clear hW2 hX2 hB2 hyc
  go_cut [17, 18] from 132 to 146 (fun s17 s18 wc => ∃ bx : Nat, s17 = .pointer (some ⟨bx, 0, none⟩) ∧ s18 = .int .i64 fa ∧ Hid (Rg lo hi W2 wc ∧ Mc wc lo hi p M1 ∧ wc.heap[bx]? = some (.cells #[.int .i64 a0, .int .i64 a1, .int .i64 a2, .int .i64 a3, .int .i64 a4, .int .i64 a5, .int .i64 a6] 42 (0, 0)) ∧ W2.heap.size ≤ bx))
  case first => exact kq_reg22 HM2 HT2 HST (by assumption) (by assumption)
  case rest =>
  obtain ⟨bx, rfl, rfl, HR3⟩ := hcut
  have hh1 : hi ≤ W2.heap.size := HM2.out.sz.1
  have HH1 := Lib.hid hh1
  have HA3 := Lib.hid (HA2.out.step HR3.out.2.1 HG1.out HC1.out HR3.out.1)
  have HB3 := Lib.hid (HB2.out.rg HR3.out.1 (.inr HS.out.ap) HS.out.a.hl)
  have HM3 := Lib.hid HB3.out.mc
  have HX3 := Lib.hid ((HR3.out.1.block _ (lt_of HX2.out) (.inr (Nat.le_trans HS.out.a.mc.sz.1 HB1.out.size))).trans HX2.out)
  have HT3 := Lib.hid (show wc.cell? ⟨b, off + i * 2, none⟩ = some (.int .i64 tx) ∧ wc.cell? ⟨b, off + i * 2 + 1, none⟩ = some (.bool tb) ∧ b < wc.heap.size ∧ i < tl.length ∧ tl.length ≤ 60 from by
    have hbk := HR3.out.1.block b HT2.out.2.2.1 (.inl HBL.out.2.2.1)
    exact ⟨(World.cell?_of_block (a := ⟨b, off + i * 2, none⟩) hbk).trans HT2.out.1, (World.cell?_of_block (a := ⟨b, off + i * 2 + 1, none⟩) hbk).trans HT2.out.2.1, Nat.lt_of_lt_of_le HT2.out.2.2.1 HR3.out.1.size, HLT.out.2, H60.out⟩)
  have HST3 := Lib.hid (fun (W : World) (hb : Below wc.heap.size wc W) => HS2.out W (HM3.out.ext hb) (HLm.out W (ext_trans HA3.out.wb.be hb)))
  clear hh1
  go_step
  go_upto_region 23 with (fail)
  obtain ⟨W3, hW3⟩ : ∃ W, W = wc := ⟨_, rfl⟩
  subst hW3
  go_cut [19, 20] from 147 to 161 (fun s19 s20 wd => ∃ bx : Nat, s19 = .pointer (some ⟨bx, 0, none⟩) ∧ s20 = .int .i64 fb ∧ Hid (Rg lo2 hi2 W3 wd ∧ Mc wd lo2 hi2 p2 N1 ∧ wd.heap[bx]? = some (.cells #[.int .i64 b0, .int .i64 b1, .int .i64 b2, .int .i64 b3, .int .i64 b4, .int .i64 b5, .int .i64 b6] 42 (0, 0)) ∧ W3.heap.size ≤ bx))
  case first => exact kq_reg23 HM3 HT3 HST3 (by assumption) (by assumption)
  case rest =>
  obtain ⟨by1, rfl, rfl, HR4⟩ := hcut
  have HA4 := Lib.hid (HA3.out.rg HR4.out.1 (.inl HS.out.ap) HS.out.b.hl)
  have HB4 := Lib.hid (HB3.out.step HR4.out.2.1 HG2.out HC2.out HR4.out.1)
  have hi2w : hi2 ≤ wr.heap.size := HS.out.b.mc.sz.1
  have hs2 : wr.heap.size ≤ W2.heap.size := by have := HB1.out.size; have := lt_of HX2.out; omega
  have hX4 := (HR4.out.1.block _ (lt_of HX3.out) (.inr (Nat.le_trans hi2w HB1.out.size))).trans HX3.out
  have hE4 := (HR4.out.1.block _ (lt_of HR3.out.2.2.1) (.inr (by have := HR3.out.2.2.2; omega))).trans HR3.out.2.2.1
  have hF4 := HR4.out.2.2.1
  have HXE := Lib.hid (And.intro hX4 (And.intro hE4 hF4))
  have HL4 := Lib.hid (HLm.out _ HA4.out.wb.be)
  have HAG := Lib.hid (agree_any k c HA4.out.mc HA4.out.gd HB4.out.mc HAP.out.2.2 HL4.out HA4.out.hc)
  clear hi2w hs2 hX4 hE4 hF4
  obtain ⟨t0, t1, t2, t3, t4, t5, t6, t7, t8, t9, t10⟩ := eleven_at HA4.out.wb.box
  have tl1 := lt_of HA4.out.wb.box
  go_step
  go_wp2_with fail
  refine HAG.out.mono ?_
  rintro e w5 ⟨⟨rb, rfl, hrb⟩, hb⟩
  have HRB := Lib.hid hrb
  have HA5 := Lib.hid (HA4.out.ext hb)
  have HB5 := Lib.hid (HB4.out.ext hb)
  have hX5 := (hb.block _ (lt_of HXE.out.1)).trans HXE.out.1
  have hE5 := (hb.block _ (lt_of HXE.out.2.1)).trans HXE.out.2.1
  have hF5 := (hb.block _ (lt_of HXE.out.2.2)).trans HXE.out.2.2
  have HXE5 := Lib.hid (And.intro hX5 (And.intro hE5 hF5))
  clear hb hrb t0 t1 t2 t3 t4 t5 t6 t7 t8 t9 t10 tl1
  obtain ⟨q0, q1, q2, q3, q4, q5, q6, _, ql⟩ := ev_cells hX5
  obtain ⟨m0, m1, m2, m3, m4, m5, m6, _, ml⟩ := ev_cells hE5
  obtain ⟨n0, n1, n2, n3, n4, n5, n6, _, nl⟩ := ev_cells hF5
  clear hX5 hE5 hF5
  by_cases hw : cs.wo = k
  · have ew : (cs.wo == k) = true := by simpa using hw
    obtain ⟨he, hf, hA9⟩ := HAP.out.1 hw
    have hrt : rb = true := HRB.out.2 hA9
    have HA9 := Lib.hid hA9
    injection he with e0 e1 e2 e3 e4 e5 e6
    subst hrt e0 e1 e2 e3 e4 e5 e6 hf
    have hne := fun w => neqEv11 w a0 a1 a2 a3 a4 a5 a6
    clear hw hA9
    go_wp2_with fail
    go_roundg (tl.length - (i + 1))
    case measure => have := HLT.out; omega
    case rel => exact ⟨i + 1, M1, N1, by go_num, by have := HLT.out; omega, Lib.hid ⟨HA5.out, HB5.out, HS.out.ap, HAP.out.2.2, HA9.out⟩⟩
  · have ew : (cs.wo == k) = false := by simpa using hw
    have hor := HAP.out.2.1 hw
    have HOR := Lib.hid hor
    clear hw hor
    cases rb
    · have hnA : ¬ Agr M1 N1 k := fun h => by have := HRB.out.2 h; cases this
      have HSN := Lib.hid (HOR.out.resolve_left hnA)
      have hs1 := seen_any (k := k) HA5.out.mc a0 a1 a2 a3 a4 a5 a6 HV1.out
      have hs2 := fun (W : World) (m : Mc W lo2 hi2 p2 N1) => seen_any (k := k) m b0 b1 b2 b3 b4 b5 b6 HV2.out
      obtain ⟨s1, hs1e⟩ : ∃ s, s = seenB M1 ⟨a0, a1, a2, a3, a4, a5, a6⟩ k := ⟨_, rfl⟩
      obtain ⟨s2, hs2e⟩ : ∃ s, s = seenB N1 ⟨b0, b1, b2, b3, b4, b5, b6⟩ k := ⟨_, rfl⟩
      rw [← hs1e] at hs1
      rw [← hs2e] at hs2
      have HSS := Lib.hid (show s1 = true ∨ s2 = true by rw [hs1e, hs2e]; exact HSN.out)
      have HN1 := Lib.hid hs1
      have HN2 := Lib.hid hs2
      clear hnA hs1 hs2 hs1e hs2e
      go_wp2_with fail
      refine HN1.out.mono ?_
      rintro e w6 ⟨rfl, hb⟩
      have HA6 := Lib.hid (HA5.out.ext hb)
      have HB6 := Lib.hid (HB5.out.ext hb)
      have hF6 := (hb.block _ (lt_of HXE5.out.2.2)).trans HXE5.out.2.2
      clear hb n0 n1 n2 n3 n4 n5 n6 nl
      obtain ⟨n0, n1, n2, n3, n4, n5, n6, _, nl⟩ := ev_cells hF6
      clear hF6
      cases s1
      · have h2 : s2 = true := by
          rcases HSS.out with h | h
          · cases h
          · exact h
        subst h2
        go_wp2_with fail
        refine (HN2.out _ HB6.out.mc).mono ?_
        rintro e w7 ⟨rfl, hb⟩
        have HA7 := Lib.hid (HA6.out.ext hb)
        clear hb
        go_wp2_with fail
        (repeat apply Exists.intro)
        exact ⟨Lib.hid HA7.out.wb, rfl⟩
      · go_wp2_with fail
        (repeat apply Exists.intro)
        exact ⟨Lib.hid HA6.out.wb, rfl⟩
    · have HA9 := Lib.hid (HRB.out.1 rfl)
      go_wp2_with fail
      go_roundg (tl.length - (i + 1))
      case measure => have := HLT.out; omega
      case rel => exact ⟨i + 1, M1, N1, by go_num, by have := HLT.out; omega, Lib.hid ⟨HA5.out, HB5.out, HS.out.ap, HAP.out.2.2, HA9.out⟩⟩

end Go.Proofs.YtkobeajbiendlaaDoor
