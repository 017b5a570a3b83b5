/- What this text holds: a round of each of the two inner loops of the law AtomKeeps. Conditions: the tables of limits and of ops hold what their initialisers lay. -/
import Derived.Test.YtkobeajbiendlaaDoorL11B
import Derived.Test.YtkobeajbiendlaaDoorPl11B
import Derived.Deep.RegionHeld3
import Derived.ChangeKeysEq
import Derived.Test.YtkobeajbiendlaaDoorSub
namespace Go.Proofs.YtkobeajbiendlaaDoor
open Go.RowKit

theorem neqRegs11 (w : World) (a b c d : Int) : (binOp .neq 30 (.agg #[.int .i64 a, .int .i64 b, .int .i64 c, .int .i64 d]) (.agg #[.int .i64 a, .int .i64 b, .int .i64 c, .int .i64 d])).run Tryd.prog w = .ok (.bool false) w := by
  obtain ⟨i0, hi, hz0, hz1, hz2⟩ := info_parts info_int11
  have hc : Tryd.prog.cellsOf 3 = 1 := by kernel_rfl
  have hr : List.range 4 = [0, 1, 2, 3] := rfl
  have h : ∀ w, (Op.equalIn 10000 30 (.agg #[.int .i64 a, .int .i64 b, .int .i64 c, .int .i64 d]) (.agg #[.int .i64 a, .int .i64 b, .int .i64 c, .int .i64 d])).run Tryd.prog w = .ok true w := fun w => by
    rw [run_equalIn_array (P := Tryd.prog) w 9999 _ _ Tryd.underlying30 hi, hc, hr]
    simp only [Op.eqItems]
    go_simp
  go_simp
theorem blk7 {W : World} {b bx : Nat} {X : Option Obj} {x0 x1 x2 x3 x4 x5 x6 : Value} (h : W.heap[b]? = X) (hne : b ≠ bx) :
    (((((((W.setCell ⟨bx, 0, none⟩ x0).setCell ⟨bx, 1, none⟩ x1).setCell ⟨bx, 2, none⟩ x2).setCell ⟨bx, 3, none⟩ x3).setCell ⟨bx, 4, none⟩ x4).setCell ⟨bx, 5, none⟩ x5).setCell ⟨bx, 6, none⟩ x6).heap[b]? = X := by
  rw [Below.heap_setCell _ _ _ _ hne, Below.heap_setCell _ _ _ _ hne, Below.heap_setCell _ _ _ _ hne, Below.heap_setCell _ _ _ _ hne, Below.heap_setCell _ _ _ _ hne, Below.heap_setCell _ _ _ _ hne, Below.heap_setCell _ _ _ _ hne]
  exact h
theorem cell7 {W : World} {b bx o : Nat} {x0 x1 x2 x3 x4 x5 x6 : Value} (hne : b ≠ bx) :
    (((((((W.setCell ⟨bx, 0, none⟩ x0).setCell ⟨bx, 1, none⟩ x1).setCell ⟨bx, 2, none⟩ x2).setCell ⟨bx, 3, none⟩ x3).setCell ⟨bx, 4, none⟩ x4).setCell ⟨bx, 5, none⟩ x5).setCell ⟨bx, 6, none⟩ x6).cell? ⟨b, o, none⟩ = W.cell? ⟨b, o, none⟩ :=
  World.cell?_of_block (a := ⟨b, o, none⟩) (blk7 rfl hne)
/-- A machine behind a step, its copy ahead of it, and the event. -/
structure Ks (w wr : World) (lo hi p lo2 hi2 p2 bx : Nat) (M1 M : Ma) (ev : List Value) (c : Cfg) (A B C D : Option Addr) (l : List Pr) (ws os ds : List Int) (c1 c2 c3 c4 : Nat) : Prop where
  a : Lw w wr lo hi p M1 c A B C D l ws os ds c1 c2 c3 c4
  b : Mc wr lo2 hi2 p2 M
  x : wr.heap[bx]? = some (.cells ev.toArray 42 (0, 0))
theorem Ks.ext {w a b : World} {lo hi p lo2 hi2 p2 bx : Nat} {M1 M : Ma} {ev : List Value} {c : Cfg} {A B C D : Option Addr} {l : List Pr} {ws os ds : List Int} {c1 c2 c3 c4 : Nat} (h : Ks w a lo hi p lo2 hi2 p2 bx M1 M ev c A B C D l ws os ds c1 c2 c3 c4) (hb : Below a.heap.size a b) : Ks w b lo hi p lo2 hi2 p2 bx M1 M ev c A B C D l ws os ds c1 c2 c3 c4 := ⟨h.a.ext hb, h.b.ext hb, (hb.block _ (lt_of h.x)).trans h.x⟩
/-- A store to the event's own box. -/
theorem Lw.box {w a b : World} {lo hi p bx : Nat} {M : Ma} {c : Cfg} {A B C D : Option Addr} {l : List Pr} {ws os ds : List Int} {c1 c2 c3 c4 : Nat} (h : Lw w a lo hi p M c A B C D l ws os ds c1 c2 c3 c4) (hg : a.grownBy b (some bx)) (hb : hi ≤ bx) : Lw w b lo hi p M c A B C D l ws os ds c1 c2 c3 c4 := by
  have hs := h.mc.sz
  have hl := h.hl
  exact ⟨⟨h.wb.be.grown hg h.wb.be.size (fun k e => by cases e; omega), (hg.block _ (lt_of h.wb.box) (fun e => by cases e; omega)).trans h.wb.box⟩, h.mc.keep (fun k h1 h2 => hg.block k (by omega) (fun e => by cases e; omega)) hg.size, h.gd, h.hc, h.hl⟩
theorem Mc.box {a b : World} {lo hi p bx : Nat} {M : Ma} (h : Mc a lo hi p M) (hg : a.grownBy b (some bx)) (hb : hi ≤ bx) : Mc b lo hi p M :=
  h.keep (fun k h1 h2 => hg.block k (by have := h.sz; omega) (fun e => by cases e; omega)) hg.size
set_option maxRecDepth 100000 in
set_option maxHeartbeats 4000000 in
theorem kp_word {c : Cfg} {A B C D : Option Addr} {l : List Pr} {ws os ds : List Int} {c1 c2 c3 c4 : Nat} {w wr : World} {lo hi p lo2 hi2 p2 bx : Nat} {M1 M : Ma} {eco ea eop ewo ewd eva ecd f : Int} {cb : Bool} {k gk : Nat} {sx0 sx1 sx3 sx6 sx7 sx21 sx22 sx23 sx24 sx25 sx26 sx27 sx28 sx29 sx30 sx31 sx32 sx33 sx34 sx35 sx36 sx37 sx38 sx39 sx40 sx41 sx42 sx43 sx44 sx45 sx46 sx47 sx48 sx49 sx50 sx51 sx52 sx53 sx54 sx55 sx56 sx57 sx58 sx59 sx60 sx61 sx62 sx63 sx64 sx65 sx66 sx67 sx68 sx69 sx70 sx71 sx72 sx73 sx74 sx75 sx76 sx77 sx78 sx79 sx80 sx81 sx82 sx83 sx84 sx85 sx86 sx87 sx88 sx89 sx90 sx91 sx168 sx169 sx170 sx171 sx172 sx173 sx174 sx175 sx176 sx177 sx178 sx179 sx180 sx181 sx182 sx183 sx184 sx185 sx186 sx187 sx188 sx189 sx190 sx191 sx192 sx193 sx194 sx195 sx196 sx197 sx198 sx199 sx200 sx201 sx202 sx203 sx204 sx205 sx206 sx207 sx208 sx209 sx210 sx211 sx212 sx213 sx214 sx215 sx216 sx217 sx218 sx219 sx220 sx221 sx222 sx223 sx224 sx225 sx226 sx227 sx228 sx229 sx230 sx231 sx232 sx233 sx234 sx235 sx236 sx237 sx238 sx239 sx240 sx241 sx242 sx243 sx244 sx245 sx246 sx247 sx248 sx249 sx250 sx251 sx252 sx253 sx254 sx255 sx256 sx257 sx258 su4 su13 su14 su15 su16 su17 su18 su19 su20 su92 su93 su94 su95 su96 su97 su98 su99 su100 su101 su102 su103 su104 su105 su106 su107 su108 su109 su110 su111 su112 su113 su114 su115 su116 su117 su118 su119 su120 su121 su122 su123 su124 su125 su126 su127 su128 su129 su130 su131 su132 su133 su134 su135 su136 su137 su138 su139 su140 su141 su142 su143 su144 su145 su146 su147 su148 su149 su150 su151 su152 su153 su154 su155 su156 su157 su158 su159 su160 su161 su162 su163 su164 su165 su166 su167 : Value} {J : Nat → Act → World → Prop} {K : Act → World → Prop} {Q : Exit → Act → World → Prop}
    (HL : Hid (Lims w)) (HR : Hid (Ks w wr lo hi p lo2 hi2 p2 bx M1 M [.int .i64 eco, .int .i64 ea, .int .i64 eop, .int .i64 ewo, .int .i64 ewd, .int .i64 eva, .int .i64 ecd] c A B C D l ws os ds c1 c2 c3 c4)) (HN2 : Hid (2 * (M.m.n : Int) = lin c * 2 ∧ M.m.n ≤ 32 ∧ (M.ng : Int) = c.gr ∧ M.ng ≤ 16 ∧ M1.m.n = M.m.n ∧ M1.ng = M.ng ∧ M1.nc = M.nc ∧ M.m.n = 2 * M.ng)) (HCB : Hid (cb = (((f == 0) && (eop == 8)) && (ecd == 0)))) (HK1 : Hid (∀ k, M1.m.wd k ≠ M.m.wd k → (f = 0 ∧ ecd = 0 ∧ (eop = 4 ∨ eop = 5) ∧ ewd = (k : Int) ∧ mayT ewo (M.ow (k / 4)) = true) ∨ (f = 0 ∧ eop = 8 ∧ ecd = 0 ∧ ewd = ((k / 4 : Nat) : Int) ∧ M1.m.wd k = 0)))
    (hk : k + gk = 2 * M.m.n) (hlt : k < 2 * M.m.n)
    (hJ : ∀ n a' w', (∃ sv4 sv12 sv13 sv14 sv15 sv16 sv17 sv18 sv19 sv20 sv92 sv93 sv94 sv95 sv96 sv97 sv98 sv99 sv100 sv101 sv102 sv103 sv104 sv105 sv106 sv107 sv108 sv109 sv110 sv111 sv112 sv113 sv114 sv115 sv116 sv117 sv118 sv119 sv120 sv121 sv122 sv123 sv124 sv125 sv126 sv127 sv128 sv129 sv130 sv131 sv132 sv133 sv134 sv135 sv136 sv137 sv138 sv139 sv140 sv141 sv142 sv143 sv144 sv145 sv146 sv147 sv148 sv149 sv150 sv151 sv152 sv153 sv154 sv155 sv156 sv157 sv158 sv159 sv160 sv161 sv162 sv163 sv164 sv165 sv166 sv167 : Value, (∃ k : Nat, sv12 = .int .i64 k ∧ k + n = 2 * M.m.n ∧ Hid (Ks w w' lo hi p lo2 hi2 p2 bx M1 M [.int .i64 eco, .int .i64 ea, .int .i64 eop, .int .i64 ewo, .int .i64 ewd, .int .i64 eva, .int .i64 ecd] c A B C D l ws os ds c1 c2 c3 c4)) ∧ a' = { tmps := #[sx0, sx1, .pointer (some ⟨w.heap.size, 0, none⟩), sx3, sv4, .pointer (some ⟨p, 0, none⟩), sx6, sx7, .pointer (some ⟨p2, 0, none⟩), .pointer (some ⟨bx, 0, none⟩), .int .i64 f, .bool cb, sv12, sv13, sv14, sv15, sv16, sv17, sv18, sv19, sv20, sx21, sx22, sx23, sx24, sx25, sx26, sx27, sx28, sx29, sx30, sx31, sx32, sx33, sx34, sx35, sx36, sx37, sx38, sx39, sx40, sx41, sx42, sx43, sx44, sx45, sx46, sx47, sx48, sx49, sx50, sx51, sx52, sx53, sx54, sx55, sx56, sx57, sx58, sx59, sx60, sx61, sx62, sx63, sx64, sx65, sx66, sx67, sx68, sx69, sx70, sx71, sx72, sx73, sx74, sx75, sx76, sx77, sx78, sx79, sx80, sx81, sx82, sx83, sx84, sx85, sx86, sx87, sx88, sx89, sx90, sx91, sv92, sv93, sv94, sv95, sv96, sv97, sv98, sv99, sv100, sv101, sv102, sv103, sv104, sv105, sv106, sv107, sv108, sv109, sv110, sv111, sv112, sv113, sv114, sv115, sv116, sv117, sv118, sv119, sv120, sv121, sv122, sv123, sv124, sv125, sv126, sv127, sv128, sv129, sv130, sv131, sv132, sv133, sv134, sv135, sv136, sv137, sv138, sv139, sv140, sv141, sv142, sv143, sv144, sv145, sv146, sv147, sv148, sv149, sv150, sv151, sv152, sv153, sv154, sv155, sv156, sv157, sv158, sv159, sv160, sv161, sv162, sv163, sv164, sv165, sv166, sv167, sx168, sx169, sx170, sx171, sx172, sx173, sx174, sx175, sx176, sx177, sx178, sx179, sx180, sx181, sx182, sx183, sx184, sx185, sx186, sx187, sx188, sx189, sx190, sx191, sx192, sx193, sx194, sx195, sx196, sx197, sx198, sx199, sx200, sx201, sx202, sx203, sx204, sx205, sx206, sx207, sx208, sx209, sx210, sx211, sx212, sx213, sx214, sx215, sx216, sx217, sx218, sx219, sx220, sx221, sx222, sx223, sx224, sx225, sx226, sx227, sx228, sx229, sx230, sx231, sx232, sx233, sx234, sx235, sx236, sx237, sx238, sx239, sx240, sx241, sx242, sx243, sx244, sx245, sx246, sx247, sx248, sx249, sx250, sx251, sx252, sx253, sx254, sx255, sx256, sx257, sx258], defers := [] }) → J n a' w') (hK : ∀ a' w', Handed J gk a' w' → K a' w') :
    (lp Tryd.f10 1).wp Tryd.prog (Exit.then K Q) { tmps := #[sx0, sx1, .pointer (some ⟨w.heap.size, 0, none⟩), sx3, su4, .pointer (some ⟨p, 0, none⟩), sx6, sx7, .pointer (some ⟨p2, 0, none⟩), .pointer (some ⟨bx, 0, none⟩), .int .i64 f, .bool cb, .int .i64 k, su13, su14, su15, su16, su17, su18, su19, su20, sx21, sx22, sx23, sx24, sx25, sx26, sx27, sx28, sx29, sx30, sx31, sx32, sx33, sx34, sx35, sx36, sx37, sx38, sx39, sx40, sx41, sx42, sx43, sx44, sx45, sx46, sx47, sx48, sx49, sx50, sx51, sx52, sx53, sx54, sx55, sx56, sx57, sx58, sx59, sx60, sx61, sx62, sx63, sx64, sx65, sx66, sx67, sx68, sx69, sx70, sx71, sx72, sx73, sx74, sx75, sx76, sx77, sx78, sx79, sx80, sx81, sx82, sx83, sx84, sx85, sx86, sx87, sx88, sx89, sx90, sx91, su92, su93, su94, su95, su96, su97, su98, su99, su100, su101, su102, su103, su104, su105, su106, su107, su108, su109, su110, su111, su112, su113, su114, su115, su116, su117, su118, su119, su120, su121, su122, su123, su124, su125, su126, su127, su128, su129, su130, su131, su132, su133, su134, su135, su136, su137, su138, su139, su140, su141, su142, su143, su144, su145, su146, su147, su148, su149, su150, su151, su152, su153, su154, su155, su156, su157, su158, su159, su160, su161, su162, su163, su164, su165, su166, su167, sx168, sx169, sx170, sx171, sx172, sx173, sx174, sx175, sx176, sx177, sx178, sx179, sx180, sx181, sx182, sx183, sx184, sx185, sx186, sx187, sx188, sx189, sx190, sx191, sx192, sx193, sx194, sx195, sx196, sx197, sx198, sx199, sx200, sx201, sx202, sx203, sx204, sx205, sx206, sx207, sx208, sx209, sx210, sx211, sx212, sx213, sx214, sx215, sx216, sx217, sx218, sx219, sx220, sx221, sx222, sx223, sx224, sx225, sx226, sx227, sx228, sx229, sx230, sx231, sx232, sx233, sx234, sx235, sx236, sx237, sx238, sx239, sx240, sx241, sx242, sx243, sx244, sx245, sx246, sx247, sx248, sx249, sx250, sx251, sx252, sx253, sx254, sx255, sx256, sx257, sx258], defers := [] } wr := by
  conv => arg 2; whnf
  obtain ⟨t0, t1, t2, t3, t4, t5, t6, t7, t8, t9, t10⟩ := eleven_at HR.out.a.wb.box
  have hl1 := lt_of HR.out.a.wb.box
  have hk64 : (k : Int) ≤ 64 := by have := HN2.out; omega
  have HWD := Lib.hid (words_any c wr (HL.out.ext HR.out.a.wb.be))
  have ek : decide ((k : Int) < lin c * 2) = true := by have := HN2.out; simp; omega
  have HLT2 := Lib.hid (And.intro hk hlt)
  clear hk hlt
  go_wp2_with fail
  refine HWD.out.mono ?_
  rintro e wa ⟨rfl, hb⟩
  have HRa := Lib.hid (HR.out.ext hb)
  clear hb t0 t1 t2 t3 t4 t5 t6 t7 t8 t9 t10 hl1 HWD
  have hG := aget_all HRa.out.b (HL.out.ext HRa.out.a.wb.be) (k : Int)
  rw [getA_in (by have := HLT2.out; omega)] at hG
  have HG := Lib.hid hG
  clear hG
  go_wp2_with fail
  refine HG.out.mono ?_
  rintro e wb ⟨rfl, hb⟩
  have HRb := Lib.hid (HRa.out.ext hb)
  have hG := aget_all HRb.out.a.mc (HL.out.ext HRb.out.a.wb.be) (k : Int)
  rw [getA_in (by have := HLT2.out; have := HN2.out; omega)] at hG
  have HG := Lib.hid hG
  clear hb hG
  have HKK := HK1.out k
  obtain ⟨va, hva⟩ : ∃ v, v = M.m.wd k := ⟨_, rfl⟩
  obtain ⟨vb, hvb⟩ : ∃ v, v = M1.m.wd k := ⟨_, rfl⟩
  rw [← hva] at HKK ⊢
  rw [← hvb] at HKK HG
  clear hva hvb
  by_cases hab : va = vb
  · clear HKK
    have eab : (va == vb) = true := by simpa using hab
    go_wp2_with fail
    refine HG.out.mono ?_
    rintro e wc ⟨rfl, hb⟩
    have HRc := Lib.hid (HRb.out.ext hb)
    clear hb
    go_wp2_with fail
    go_roundg (2 * M.m.n - (k + 1))
    case measure => have := HLT2.out; omega
    case rel => exact ⟨k + 1, by go_num, by have := HLT2.out; omega, HRc⟩
  · have eab : (va == vb) = false := by simpa using hab
    have HQQ := Lib.hid (HKK (fun e => hab e.symm))
    clear HKK hab
    go_wp2_with fail
    refine HG.out.mono ?_
    rintro e wc ⟨rfl, hb⟩
    have HRc := Lib.hid (HRb.out.ext hb)
    clear hb
    go_wp2_with fail
    have hG := aown_all HRc.out.b ((k : Int) / 4)
    rw [show ((k : Int) / 4) = ((k / 4 : Nat) : Int) by omega, ownA_in (by have := HLT2.out; have := HN2.out; omega)] at hG
    rw [← show ((k : Int) / 4) = ((k / 4 : Nat) : Int) by omega] at hG
    have HG4 := Lib.hid hG
    clear hG
    refine HG4.out.mono ?_
    rintro e wd ⟨rfl, hb⟩
    have HRd := Lib.hid (HRc.out.ext hb)
    obtain ⟨x0, x1, x2, x3, x4, x5, x6, xf, xl⟩ := ev_cells HRd.out.x
    clear hb HR HRa HRb HRc

    rcases HQQ.out with hq | hq
    · have HQQ := Lib.hid hq
      clear hq
      have g0 : (ecd == 0) = true := by simpa using HQQ.out.2.1
      have f0 : (f == 0) = true := by simpa using HQQ.out.1
      have q1 : (ewd == (k : Int)) = true := by simpa using HQQ.out.2.2.2.1
      have HMT := Lib.hid (fun W => tmay_any ewo (M.ow (k / 4)) W)
      have hmt := HQQ.out.2.2.2.2
      have hcb : cb = false := by rw [HCB.out]; have := HQQ.out.2.2.1; simp; omega
      subst hcb
      rcases HQQ.out.2.2.1 with h4 | h5
      · have g4 : (eop == 4) = true := by simpa using h4
        clear h4
        go_wp2_with fail
        have hq := HMT.out wd
        rw [hmt] at hq
        refine hq.mono ?_
        clear hq
        rintro e we ⟨rfl, hw⟩
        subst hw
        go_wp2_with fail
        go_roundg (2 * M.m.n - (k + 1))
        case measure => have := HLT2.out; omega
        case rel => exact ⟨k + 1, by go_num, by have := HLT2.out; omega, HRd⟩
      · have g4 : (eop == 4) = false := by subst h5; rfl
        have g5 : (eop == 5) = true := by simpa using h5
        clear h5
        go_wp2_with fail
        have hq := HMT.out wd
        rw [hmt] at hq
        refine hq.mono ?_
        clear hq
        rintro e we ⟨rfl, hw⟩
        subst hw
        go_wp2_with fail
        go_roundg (2 * M.m.n - (k + 1))
        case measure => have := HLT2.out; omega
        case rel => exact ⟨k + 1, by go_num, by have := HLT2.out; omega, HRd⟩
    · have HQQ := Lib.hid hq
      clear hq
      have f0 : (f == 0) = true := by simpa using HQQ.out.1
      have g0 : (ecd == 0) = true := by simpa using HQQ.out.2.2.1
      have g4 : (eop == 4) = false := by have := HQQ.out.2.1; subst this; rfl
      have g5 : (eop == 5) = false := by have := HQQ.out.2.1; subst this; rfl
      have q1 : (ewd == (k : Int) / 4) = true := by have := HQQ.out.2.2.2.1; simp; omega
      have q2 : (vb == 0) = true := by simpa using HQQ.out.2.2.2.2
      have hcb : cb = true := by rw [HCB.out, f0, g0]; have := HQQ.out.2.1; simp; omega
      subst hcb
      go_wp2_with fail
      go_roundg (2 * M.m.n - (k + 1))
      case measure => have := HLT2.out; omega
      case rel => exact ⟨k + 1, by go_num, by have := HLT2.out; omega, HRd⟩
set_option maxRecDepth 100000 in
set_option maxHeartbeats 4000000 in
theorem kp_own {c : Cfg} {A B C D : Option Addr} {l : List Pr} {ws os ds : List Int} {c1 c2 c3 c4 : Nat} {w wr : World} {lo hi p lo2 hi2 p2 bx : Nat} {M1 M : Ma} {eco ea eop ewo ewd eva ecd f : Int} {cb : Bool} {k gk : Nat} {sx0 sx1 sx3 sx6 sx7 sx12 sx13 sx14 sx15 sx16 sx17 sx18 sx19 sx20 sx26 sx27 sx28 sx29 sx30 sx31 sx32 sx33 sx34 sx35 sx36 sx37 sx38 sx39 sx40 sx41 sx42 sx43 sx44 sx45 sx46 sx47 sx48 sx49 sx50 sx51 sx52 sx53 sx54 sx55 sx56 sx57 sx58 sx59 sx60 sx61 sx62 sx63 sx64 sx65 sx66 sx67 sx68 sx69 sx70 sx71 sx72 sx73 sx74 sx75 sx76 sx77 sx78 sx79 sx80 sx81 sx82 sx83 sx84 sx85 sx86 sx87 sx88 sx89 sx90 sx91 sx92 sx93 sx94 sx95 sx96 sx97 sx98 sx99 sx100 sx101 sx102 sx103 sx104 sx105 sx106 sx107 sx108 sx109 sx110 sx111 sx112 sx113 sx114 sx115 sx116 sx117 sx118 sx119 sx120 sx121 sx122 sx123 sx124 sx125 sx126 sx127 sx128 sx129 sx130 sx131 sx132 sx133 sx134 sx135 sx136 sx137 sx138 sx139 sx140 sx141 sx142 sx143 sx144 sx145 sx146 sx147 sx148 sx149 sx150 sx151 sx152 sx153 sx154 sx155 sx156 sx157 sx158 sx159 sx160 sx161 sx162 sx163 sx164 sx165 sx166 sx167 sx200 sx201 sx202 sx203 sx204 sx205 sx206 sx207 sx208 sx209 sx210 sx211 sx212 sx213 sx214 sx215 sx216 sx217 sx218 sx219 sx220 sx221 sx222 sx223 sx224 sx225 sx226 sx227 sx228 sx229 sx230 sx231 sx232 sx233 sx234 sx235 sx236 sx237 sx238 sx239 sx240 sx241 sx242 sx243 sx244 sx245 sx246 sx247 sx248 sx249 sx250 sx251 sx252 sx253 sx254 sx255 sx256 sx257 sx258 su4 su22 su23 su24 su25 su168 su169 su170 su171 su172 su173 su174 su175 su176 su177 su178 su179 su180 su181 su182 su183 su184 su185 su186 su187 su188 su189 su190 su191 su192 su193 su194 su195 su196 su197 su198 su199 : Value} {J : Nat → Act → World → Prop} {K : Act → World → Prop} {Q : Exit → Act → World → Prop}
    (_HL : Hid (Lims w)) (HR : Hid (Ks w wr lo hi p lo2 hi2 p2 bx M1 M [.int .i64 eco, .int .i64 ea, .int .i64 eop, .int .i64 ewo, .int .i64 ewd, .int .i64 eva, .int .i64 ecd] c A B C D l ws os ds c1 c2 c3 c4)) (HN2 : Hid (2 * (M.m.n : Int) = lin c * 2 ∧ M.m.n ≤ 32 ∧ (M.ng : Int) = c.gr ∧ M.ng ≤ 16 ∧ M1.m.n = M.m.n ∧ M1.ng = M.ng ∧ M1.nc = M.nc ∧ M.m.n = 2 * M.ng)) (HCB : Hid (cb = (((f == 0) && (eop == 8)) && (ecd == 0)))) (HK2 : Hid (∀ g, M1.ow g ≠ M.ow g → f = 0 ∧ eop = 8 ∧ ecd = 0 ∧ ewd = (g : Int)))
    (hk : k + gk = M.ng) (hlt : k < M.ng)
    (hJ : ∀ n a' w', (∃ sv4 sv21 sv22 sv23 sv24 sv25 sv168 sv169 sv170 sv171 sv172 sv173 sv174 sv175 sv176 sv177 sv178 sv179 sv180 sv181 sv182 sv183 sv184 sv185 sv186 sv187 sv188 sv189 sv190 sv191 sv192 sv193 sv194 sv195 sv196 sv197 sv198 sv199 : Value, (∃ k : Nat, sv21 = .int .i64 k ∧ k + n = M.ng ∧ Hid (Ks w w' lo hi p lo2 hi2 p2 bx M1 M [.int .i64 eco, .int .i64 ea, .int .i64 eop, .int .i64 ewo, .int .i64 ewd, .int .i64 eva, .int .i64 ecd] c A B C D l ws os ds c1 c2 c3 c4)) ∧ a' = { tmps := #[sx0, sx1, .pointer (some ⟨w.heap.size, 0, none⟩), sx3, sv4, .pointer (some ⟨p, 0, none⟩), sx6, sx7, .pointer (some ⟨p2, 0, none⟩), .pointer (some ⟨bx, 0, none⟩), .int .i64 f, .bool cb, sx12, sx13, sx14, sx15, sx16, sx17, sx18, sx19, sx20, sv21, sv22, sv23, sv24, sv25, sx26, sx27, sx28, sx29, sx30, sx31, sx32, sx33, sx34, sx35, sx36, sx37, sx38, sx39, sx40, sx41, sx42, sx43, sx44, sx45, sx46, sx47, sx48, sx49, sx50, sx51, sx52, sx53, sx54, sx55, sx56, sx57, sx58, sx59, sx60, sx61, sx62, sx63, sx64, sx65, sx66, sx67, sx68, sx69, sx70, sx71, sx72, sx73, sx74, sx75, sx76, sx77, sx78, sx79, sx80, sx81, sx82, sx83, sx84, sx85, sx86, sx87, sx88, sx89, sx90, sx91, sx92, sx93, sx94, sx95, sx96, sx97, sx98, sx99, sx100, sx101, sx102, sx103, sx104, sx105, sx106, sx107, sx108, sx109, sx110, sx111, sx112, sx113, sx114, sx115, sx116, sx117, sx118, sx119, sx120, sx121, sx122, sx123, sx124, sx125, sx126, sx127, sx128, sx129, sx130, sx131, sx132, sx133, sx134, sx135, sx136, sx137, sx138, sx139, sx140, sx141, sx142, sx143, sx144, sx145, sx146, sx147, sx148, sx149, sx150, sx151, sx152, sx153, sx154, sx155, sx156, sx157, sx158, sx159, sx160, sx161, sx162, sx163, sx164, sx165, sx166, sx167, sv168, sv169, sv170, sv171, sv172, sv173, sv174, sv175, sv176, sv177, sv178, sv179, sv180, sv181, sv182, sv183, sv184, sv185, sv186, sv187, sv188, sv189, sv190, sv191, sv192, sv193, sv194, sv195, sv196, sv197, sv198, sv199, sx200, sx201, sx202, sx203, sx204, sx205, sx206, sx207, sx208, sx209, sx210, sx211, sx212, sx213, sx214, sx215, sx216, sx217, sx218, sx219, sx220, sx221, sx222, sx223, sx224, sx225, sx226, sx227, sx228, sx229, sx230, sx231, sx232, sx233, sx234, sx235, sx236, sx237, sx238, sx239, sx240, sx241, sx242, sx243, sx244, sx245, sx246, sx247, sx248, sx249, sx250, sx251, sx252, sx253, sx254, sx255, sx256, sx257, sx258], defers := [] }) → J n a' w') (hK : ∀ a' w', Handed J gk a' w' → K a' w') :
    (lp Tryd.f10 2).wp Tryd.prog (Exit.then K Q) { tmps := #[sx0, sx1, .pointer (some ⟨w.heap.size, 0, none⟩), sx3, su4, .pointer (some ⟨p, 0, none⟩), sx6, sx7, .pointer (some ⟨p2, 0, none⟩), .pointer (some ⟨bx, 0, none⟩), .int .i64 f, .bool cb, sx12, sx13, sx14, sx15, sx16, sx17, sx18, sx19, sx20, .int .i64 k, su22, su23, su24, su25, sx26, sx27, sx28, sx29, sx30, sx31, sx32, sx33, sx34, sx35, sx36, sx37, sx38, sx39, sx40, sx41, sx42, sx43, sx44, sx45, sx46, sx47, sx48, sx49, sx50, sx51, sx52, sx53, sx54, sx55, sx56, sx57, sx58, sx59, sx60, sx61, sx62, sx63, sx64, sx65, sx66, sx67, sx68, sx69, sx70, sx71, sx72, sx73, sx74, sx75, sx76, sx77, sx78, sx79, sx80, sx81, sx82, sx83, sx84, sx85, sx86, sx87, sx88, sx89, sx90, sx91, sx92, sx93, sx94, sx95, sx96, sx97, sx98, sx99, sx100, sx101, sx102, sx103, sx104, sx105, sx106, sx107, sx108, sx109, sx110, sx111, sx112, sx113, sx114, sx115, sx116, sx117, sx118, sx119, sx120, sx121, sx122, sx123, sx124, sx125, sx126, sx127, sx128, sx129, sx130, sx131, sx132, sx133, sx134, sx135, sx136, sx137, sx138, sx139, sx140, sx141, sx142, sx143, sx144, sx145, sx146, sx147, sx148, sx149, sx150, sx151, sx152, sx153, sx154, sx155, sx156, sx157, sx158, sx159, sx160, sx161, sx162, sx163, sx164, sx165, sx166, sx167, su168, su169, su170, su171, su172, su173, su174, su175, su176, su177, su178, su179, su180, su181, su182, su183, su184, su185, su186, su187, su188, su189, su190, su191, su192, su193, su194, su195, su196, su197, su198, su199, sx200, sx201, sx202, sx203, sx204, sx205, sx206, sx207, sx208, sx209, sx210, sx211, sx212, sx213, sx214, sx215, sx216, sx217, sx218, sx219, sx220, sx221, sx222, sx223, sx224, sx225, sx226, sx227, sx228, sx229, sx230, sx231, sx232, sx233, sx234, sx235, sx236, sx237, sx238, sx239, sx240, sx241, sx242, sx243, sx244, sx245, sx246, sx247, sx248, sx249, sx250, sx251, sx252, sx253, sx254, sx255, sx256, sx257, sx258], defers := [] } wr := by
  conv => arg 2; whnf
  obtain ⟨t0, t1, t2, t3, t4, t5, t6, t7, t8, t9, t10⟩ := eleven_at HR.out.a.wb.box
  have hl1 := lt_of HR.out.a.wb.box
  have hk16 : (k : Int) ≤ 16 := by have := HN2.out; omega
  have ek : decide ((k : Int) < c.gr) = true := by have := HN2.out; simp; omega
  have HLT2 := Lib.hid (And.intro hk hlt)
  have hG := aown_all HR.out.b (k : Int)
  rw [ownA_in hlt] at hG
  have HG := Lib.hid hG
  clear hk hlt hG
  go_wp2_with fail
  refine HG.out.mono ?_
  rintro e wa ⟨rfl, hb⟩
  have HRa := Lib.hid (HR.out.ext hb)
  have hG := aown_all HRa.out.a.mc (k : Int)
  rw [ownA_in (by have := HLT2.out; have := HN2.out; omega)] at hG
  have HG := Lib.hid hG
  clear hb hG t0 t1 t2 t3 t4 t5 t6 t7 t8 t9 t10 hl1
  have HKK := HK2.out k
  obtain ⟨va, hva⟩ : ∃ v, v = M.ow k := ⟨_, rfl⟩
  obtain ⟨vb, hvb⟩ : ∃ v, v = M1.ow k := ⟨_, rfl⟩
  rw [← hva] at HKK ⊢
  rw [← hvb] at HKK HG
  clear hva hvb
  by_cases hab : va = vb
  · clear HKK
    have eab : (va != vb) = false := by simpa using hab
    go_wp2_with fail
    refine HG.out.mono ?_
    rintro e wb ⟨rfl, hb⟩
    have HRb := Lib.hid (HRa.out.ext hb)
    clear hb
    go_wp2_with fail
    go_roundg (M.ng - (k + 1))
    case measure => have := HLT2.out; omega
    case rel => exact ⟨k + 1, by go_num, by have := HLT2.out; omega, HRb⟩
  · have eab : (va != vb) = true := by simpa using hab
    have HQ := HKK (fun e => hab e.symm)
    have q1 : (ewd != (k : Int)) = false := by simpa using HQ.2.2.2
    have hcb : cb = true := by rw [HCB.out, HQ.1, HQ.2.1, HQ.2.2.1]; rfl
    subst hcb
    clear HKK hab HQ
    go_wp2_with fail
    refine HG.out.mono ?_
    rintro e wb ⟨rfl, hb⟩
    have HRb := Lib.hid (HRa.out.ext hb)
    obtain ⟨x0, x1, x2, x3, x4, x5, x6, xf, xl⟩ := ev_cells HRb.out.x
    clear hb
    go_wp2_with fail
    go_roundg (M.ng - (k + 1))
    case measure => have := HLT2.out; omega
    case rel => exact ⟨k + 1, by go_num, by have := HLT2.out; omega, HRb⟩
end Go.Proofs.YtkobeajbiendlaaDoor
