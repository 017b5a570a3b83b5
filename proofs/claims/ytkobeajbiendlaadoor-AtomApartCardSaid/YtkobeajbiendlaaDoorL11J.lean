/- What this text holds: a round of the law AtomApart: what a world is told. No condition. -/
import Derived.Test.YtkobeajbiendlaaDoorL11H
import Derived.Test.YtkobeajbiendlaaDoorL11F
namespace Go.Proofs.YtkobeajbiendlaaDoor
open Go.RowKit

theorem row_sl11 {w : World} {base n cf : Nat} {G : Option Addr} {vl : List Int} (h : w.ownsRow base 3 1 (.slice G n cf) n (vl.map (Value.int .i64))) : SlI w G vl := by
  intro h0
  have hl := h.1
  rcases h.2 with ⟨_, hn⟩ | ⟨g, cap, cur, hv, hb, hg, hc1, hc2, hc3, hc4⟩
  · rw [hn] at hl
    simp at hl
    rw [hl] at h0
    simp at h0
  · obtain ⟨rfl, _, _⟩ := Value.slice.inj hv
    refine ⟨g, 0, rfl, lt_of hg, fun i hi => ?_⟩
    have := own_cell (q := g) (j := 0 + i) (u := .int .i64 vl[i]) h (by rw [Nat.zero_add, List.getElem?_map, List.getElem?_eq_getElem hi]; rfl)
    rw [List.getElem?_eq_getElem hi]
    exact this
set_option maxRecDepth 100000 in
set_option maxHeartbeats 8000000 in
theorem kq_round {c : Cfg} {A B C D : Option Addr} {l : List Pr} {ws os ds : List Int} {c1 c2 c3 c4 : Nat} {w wr : World} {E F : Option Addr} {tl : List (Int × Bool)} {oth : List Int} {c5 c6 gk k : Nat} {sx0 sx4 sx5 sx21 sx22 sx23 sx24 sx25 sx26 sx27 sx28 sx29 sx30 sx31 sx32 sx33 sx34 sx35 sx36 sx37 sx38 sx39 sx40 sx41 sx42 sx200 su6 su8 su9 su10 su11 su12 su13 su14 su15 su16 su17 su18 su19 su20 su43 su44 su45 su46 su47 su48 su49 su50 su51 su52 su53 su54 su55 su56 su57 su58 su59 su60 su61 su62 su63 su64 su65 su66 su67 su68 su69 su70 su71 su72 su73 su74 su75 su76 su77 su78 su79 su80 su81 su82 su83 su84 su85 su86 su87 su88 su89 su90 su91 su92 su93 su94 su95 su96 su97 su98 su99 su100 su101 su102 su103 su104 su105 su106 su107 su108 su109 su110 su111 su112 su113 su114 su115 su116 su117 su118 su119 su120 su121 su122 su123 su124 su125 su126 su127 su128 su129 su130 su131 su132 su133 su134 su135 su136 su137 su138 su139 su140 su141 su142 su143 su144 su145 su146 su147 su148 su149 su150 su151 su152 su153 su154 su155 su156 su157 su158 su159 su160 su161 su162 su163 su164 su165 su166 su167 su168 su169 su170 su171 su172 su173 su174 su175 su176 su177 su178 su179 su180 su181 su182 su183 su184 su185 su186 su187 su188 su189 su190 su191 su192 su193 su194 su195 su196 su197 su198 su199 : Value} {J : Nat → Act → World → Prop} {K : Act → World → Prop} {Q : Exit → Act → World → Prop}
    (HL : Hid (Lims w)) (HO : Hid (Ops w)) (HA : Hid (SlR w A l)) (HB : Hid (SlI w B ws)) (HC : Hid (SlI w C os)) (HD : Hid (SlI w D ds)) (HE : Hid (SlT w E tl)) (HF : Hid (SlI w F oth)) (HNW : Hid (newE11 c l ws os ds = 0)) (HLN : Hid (oth.length = ds.length ∧ ds.length ≤ 80 ∧ ds.length = 4 * os.length)) (H60 : Hid (tl.length ≤ 60))
    (HW : Hid (Wb w wr w.heap.size c A B C D l ws os ds c1 c2 c3 c4)) (hk1 : 1 ≤ k) (hk : k + gk = 4) (hlt : k < 4)
    (hJ : ∀ n a' w', (∃ sv6 sv7 sv8 sv9 sv10 sv11 sv12 sv13 sv14 sv15 sv16 sv17 sv18 sv19 sv20 sv43 sv44 sv45 sv46 sv47 sv48 sv49 sv50 sv51 sv52 sv53 sv54 sv55 sv56 sv57 sv58 sv59 sv60 sv61 sv62 sv63 sv64 sv65 sv66 sv67 sv68 sv69 sv70 sv71 sv72 sv73 sv74 sv75 sv76 sv77 sv78 sv79 sv80 sv81 sv82 sv83 sv84 sv85 sv86 sv87 sv88 sv89 sv90 sv91 sv92 sv93 sv94 sv95 sv96 sv97 sv98 sv99 sv100 sv101 sv102 sv103 sv104 sv105 sv106 sv107 sv108 sv109 sv110 sv111 sv112 sv113 sv114 sv115 sv116 sv117 sv118 sv119 sv120 sv121 sv122 sv123 sv124 sv125 sv126 sv127 sv128 sv129 sv130 sv131 sv132 sv133 sv134 sv135 sv136 sv137 sv138 sv139 sv140 sv141 sv142 sv143 sv144 sv145 sv146 sv147 sv148 sv149 sv150 sv151 sv152 sv153 sv154 sv155 sv156 sv157 sv158 sv159 sv160 sv161 sv162 sv163 sv164 sv165 sv166 sv167 sv168 sv169 sv170 sv171 sv172 sv173 sv174 sv175 sv176 sv177 sv178 sv179 sv180 sv181 sv182 sv183 sv184 sv185 sv186 sv187 sv188 sv189 sv190 sv191 sv192 sv193 sv194 sv195 sv196 sv197 sv198 sv199 : Value, (∃ k : Nat, sv7 = .int .i64 k ∧ 1 ≤ k ∧ k + n = 4 ∧ Hid (Wb w w' w.heap.size c A B C D l ws os ds c1 c2 c3 c4)) ∧ a' = { tmps := #[sx0, .slice F oth.length c6, .slice E tl.length c5, .pointer (some ⟨w.heap.size, 0, none⟩), sx4, sx5, sv6, sv7, sv8, sv9, sv10, sv11, sv12, sv13, sv14, sv15, sv16, sv17, sv18, sv19, sv20, sx21, sx22, sx23, sx24, sx25, sx26, sx27, sx28, sx29, sx30, sx31, sx32, sx33, sx34, sx35, sx36, sx37, sx38, sx39, sx40, sx41, sx42, sv43, sv44, sv45, sv46, sv47, sv48, sv49, sv50, sv51, sv52, sv53, sv54, sv55, sv56, sv57, sv58, sv59, sv60, sv61, sv62, sv63, sv64, sv65, sv66, sv67, sv68, sv69, sv70, sv71, sv72, sv73, sv74, sv75, sv76, sv77, sv78, sv79, sv80, sv81, sv82, sv83, sv84, sv85, sv86, sv87, sv88, sv89, sv90, sv91, sv92, sv93, sv94, sv95, sv96, sv97, sv98, sv99, sv100, sv101, sv102, sv103, sv104, sv105, sv106, sv107, sv108, sv109, sv110, sv111, sv112, sv113, sv114, sv115, sv116, sv117, sv118, sv119, sv120, sv121, sv122, sv123, sv124, sv125, sv126, sv127, sv128, sv129, sv130, sv131, sv132, sv133, sv134, sv135, sv136, sv137, sv138, sv139, sv140, sv141, sv142, sv143, sv144, sv145, sv146, sv147, sv148, sv149, sv150, sv151, sv152, sv153, sv154, sv155, sv156, sv157, sv158, sv159, sv160, sv161, sv162, sv163, sv164, sv165, sv166, sv167, sv168, sv169, sv170, sv171, sv172, sv173, sv174, sv175, sv176, sv177, sv178, sv179, sv180, sv181, sv182, sv183, sv184, sv185, sv186, sv187, sv188, sv189, sv190, sv191, sv192, sv193, sv194, sv195, sv196, sv197, sv198, sv199, sx200], defers := [] }) → J n a' w') (hK : ∀ a' w', Handed J gk a' w' → K a' w') :
    (lp Tryd.f7 0).wp Tryd.prog (Exit.then K Q) { tmps := #[sx0, .slice F oth.length c6, .slice E tl.length c5, .pointer (some ⟨w.heap.size, 0, none⟩), sx4, sx5, su6, .int .i64 k, su8, su9, su10, su11, su12, su13, su14, su15, su16, su17, su18, su19, su20, sx21, sx22, sx23, sx24, sx25, sx26, sx27, sx28, sx29, sx30, sx31, sx32, sx33, sx34, sx35, sx36, sx37, sx38, sx39, sx40, sx41, sx42, su43, su44, su45, su46, su47, su48, su49, su50, su51, su52, su53, su54, su55, su56, su57, su58, su59, su60, su61, su62, su63, su64, su65, su66, su67, su68, su69, su70, su71, su72, su73, su74, su75, su76, su77, su78, su79, su80, su81, su82, su83, su84, su85, su86, su87, su88, su89, su90, su91, su92, su93, su94, su95, su96, su97, su98, su99, su100, su101, su102, su103, su104, su105, su106, su107, su108, su109, su110, su111, su112, su113, su114, su115, su116, su117, su118, su119, su120, su121, su122, su123, su124, su125, su126, su127, su128, su129, su130, su131, su132, su133, su134, su135, su136, su137, su138, su139, su140, su141, su142, su143, su144, su145, su146, su147, su148, su149, su150, su151, su152, su153, su154, su155, su156, su157, su158, su159, su160, su161, su162, su163, su164, su165, su166, su167, su168, su169, su170, su171, su172, su173, su174, su175, su176, su177, su178, su179, su180, su181, su182, su183, su184, su185, su186, su187, su188, su189, su190, su191, su192, su193, su194, su195, su196, su197, su198, su199, sx200], defers := [] } wr := by
  conv => arg 2; whnf
  obtain ⟨t0, t1, t2, t3, t4, t5, t6, t7, t8, t9, t10⟩ := eleven_at HW.out.box
  have wl := lt_of HW.out.box
  have ek : decide ((k : Int) ≤ 3) = true := by simp; omega
  have ek2 : decide (k ≤ 3) = true := by simp; omega
  have hk4 : (k : Int) ≤ 4 := by omega
  have HKK := Lib.hid (And.intro hk1 (And.intro hk hlt))
  have HK3 := Lib.hid (show (1 : Int) ≤ (k : Int) ∧ (k : Int) ≤ 3 by omega)
  clear hk1 hk hlt
  have HV0 := Lib.hid (show Vd w (wr.alloc (.cells #[.int .i64 c.co, .int .i64 c.gr, .int .i64 c.se, .int .i64 c.wa, .int .i64 c.de, .int .i64 c.en, .int .i64 c.ba, .slice A l.length c1, .slice B ws.length c2, .slice C os.length c3, .slice none 0 0] 69)) wr.heap.size (vpre (k : Int) os ds oth 0) c A B C D l ws os ds c1 c2 c3 c4 from
    ⟨HW.out.ext (ext_alloc _ (Below.refl _ _)), wl, none, 0, alNew rfl, World.ownsRow_nil _ _ _ _⟩)
  go_wp2_with fail
  obtain ⟨bv, hbv⟩ : ∃ b, b = wr.heap.size := ⟨_, rfl⟩
  rw [← hbv] at HV0
  simp only [← hbv]
  clear hbv t0 t1 t2 t3 t4 t5 t6 t7 t8 t9 t10 wl
  go_loopg [9] ds.length (fun n s9 wr => ∃ i : Nat, s9 = .int .i64 i ∧ i + n = ds.length ∧ Hid (Vd w wr bv (vpre (k : Int) os ds oth i) c A B C D l ws os ds c1 c2 c3 c4))
  case atStart => exact ⟨0, rfl, by omega, HV0⟩
  case round =>
    obtain ⟨i, rfl, hi, HV⟩ := hrel
    by_cases hlt : i < ds.length
    · exact kq_word HC HD HF HV HLN hi hlt (by assumption) (by assumption)
    · obtain rfl : i = ds.length := by omega
      have e1 : decide ((ds.length : Int) < (ds.length : Int)) = false := by simp
      clear hi hlt
      obtain ⟨G, cf, hbx, hrow⟩ := HV.out.bx
      have hvl : (vpre (k : Int) os ds oth ds.length).length = ds.length := vpre_len _ _ _ _ _
      obtain ⟨t0, t1, t2, t3, t4, t5, t6, t7, t8, t9, t10⟩ := eleven_at HV.out.wb.box
      have wl := lt_of HV.out.wb.box
      have HBX := Lib.hid hbx
      have hbe := HV.out.wb.be
      have HMA := Lib.hid (amade c A B C D l ws os ds c1 c2 c3 c4 wr (HL.out.ext hbe) (HO.out.ext hbe) (HA.out.ext hbe) (HB.out.ext hbe) (HC.out.ext hbe) (HD.out.ext hbe))
      have HMB := Lib.hid (fun (W : World) (hb : Below wr.heap.size wr W) => amade c A B C G l ws os (vpre (k : Int) os ds oth ds.length) c1 c2 c3 cf W (HL.out.ext (ext_trans hbe hb)) (HO.out.ext (ext_trans hbe hb)) (HA.out.ext (ext_trans hbe hb)) (HB.out.ext (ext_trans hbe hb)) (HC.out.ext (ext_trans hbe hb)) ((row_sl11 hrow).ext hb))
      have HAN := Lib.hid (agr_new (oth := oth) (k := (k : Int)) HNW.out)
      have HN2 := Lib.hid (show newE11 c l ws os (vpre (k : Int) os ds oth ds.length) = 0 by rw [newE11_len hvl]; exact HNW.out)
      have HGN := Lib.hid (Ma.Good.new HNW.out)
      have HGN2 := Lib.hid (Ma.Good.new HN2.out)
      generalize vpre (k : Int) os ds oth ds.length = vl at *
      clear hbe hbx hrow hvl
      go_wp2_with fail
      refine HMA.out.mono ?_
      rintro e w1 ⟨⟨h0, p, lo, hi, rfl, hM, hlo⟩ | ⟨h0, _⟩, hb⟩
      case inr => exact absurd HNW.out h0
      have HW1 := Lib.hid (HV.out.wb.ext hb)
      have HM1 := Lib.hid (And.intro hM hlo)
      have HB1 := Lib.hid hb
      have hbx1 := (hb.block _ (lt_of HBX.out)).trans HBX.out
      have HBX1 := Lib.hid hbx1
      clear h0 hM hlo hb t0 t1 t2 t3 t4 t5 t6 t7 t8 t9 t10 wl
      obtain ⟨t0, t1, t2, t3, t4, t5, t6, t7, t8, t9, t10⟩ := eleven_at hbx1
      have wl := lt_of hbx1
      clear hbx1
      go_wp2_with fail
      refine (HMB.out _ HB1.out).mono ?_
      rintro e w2 ⟨⟨h0, p2, lo2, hi2, rfl, hN, hlo2⟩ | ⟨h0, _⟩, hb⟩
      case inr => exact absurd HN2.out h0
      have hsz1 := HM1.out.1.sz.1
      have hwl := lt_of HV.out.wb.box
      have HA2 := Lib.hid (show Lw w w2 lo hi p (maNew c l ws os ds l.length) c A B C D l ws os ds c1 c2 c3 c4 from ⟨HW1.out.ext hb, HM1.out.1.ext hb, HGN.out, rfl, Nat.lt_of_lt_of_le hwl HM1.out.2⟩)
      have HB2 := Lib.hid (show Lw w w2 lo2 hi2 p2 (maNew c l ws os vl l.length) c A B C D l ws os ds c1 c2 c3 c4 from ⟨HW1.out.ext hb, hN, HGN2.out, rfl, by have := HB1.out.size; omega⟩)
      have HAP := Lib.hid (show hi ≤ lo2 by omega)
      clear h0 hN hlo2 hb hsz1 hwl t0 t1 t2 t3 t4 t5 t6 t7 t8 t9 t10 wl
      generalize maNew c l ws os ds l.length = M0 at *
      generalize maNew c l ws os vl l.length = N0 at *
      obtain ⟨t0, t1, t2, t3, t4, t5, t6, t7, t8, t9, t10⟩ := eleven_at HA2.out.wb.box
      have wl := lt_of HA2.out.wb.box
      have HAG := Lib.hid (agree_any (k : Int) c HA2.out.mc HA2.out.gd HB2.out.mc HAN.out.1 (HL.out.ext HA2.out.wb.be) HA2.out.hc)
      go_wp2_with fail
      refine HAG.out.mono ?_
      rintro e w3 ⟨⟨rb, rfl, hrb⟩, hb⟩
      have hrt : rb = true := hrb.2 HAN.out.2
      subst hrt
      have HAS := Lib.hid (show As w w3 lo hi p lo2 hi2 p2 M0 N0 (k : Int) c A B C D l ws os ds c1 c2 c3 c4 from ⟨HA2.out.ext hb, HB2.out.ext hb, HAP.out, HAN.out.1, HAN.out.2⟩)
      clear hb hrb t0 t1 t2 t3 t4 t5 t6 t7 t8 t9 t10 wl
      go_wp2_with fail
      go_loopg [14] tl.length (fun n s14 wr => ∃ (i : Nat) (M N : Ma), s14 = .int .i64 i ∧ i + n = tl.length ∧ Hid (As w wr lo hi p lo2 hi2 p2 M N (k : Int) c A B C D l ws os ds c1 c2 c3 c4))
      case atStart => exact ⟨0, M0, N0, rfl, by omega, HAS⟩
      case round =>
        obtain ⟨i, M, N, rfl, hi, HS⟩ := hrel
        by_cases hlt : i < tl.length
        · refine kq_step HL HE HK3 HS H60 hi hlt (by assumption) (by assumption) ?_
          intro a9 w9 h9
          obtain ⟨sv6, h9⟩ := h9
          obtain ⟨sv14, h9⟩ := h9
          obtain ⟨sv15, h9⟩ := h9
          obtain ⟨sv16, h9⟩ := h9
          obtain ⟨sv17, h9⟩ := h9
          obtain ⟨sv18, h9⟩ := h9
          obtain ⟨sv19, h9⟩ := h9
          obtain ⟨sv20, h9⟩ := h9
          obtain ⟨sv116, h9⟩ := h9
          obtain ⟨sv117, h9⟩ := h9
          obtain ⟨sv118, h9⟩ := h9
          obtain ⟨sv119, h9⟩ := h9
          obtain ⟨sv120, h9⟩ := h9
          obtain ⟨sv121, h9⟩ := h9
          obtain ⟨sv122, h9⟩ := h9
          obtain ⟨sv123, h9⟩ := h9
          obtain ⟨sv124, h9⟩ := h9
          obtain ⟨sv125, h9⟩ := h9
          obtain ⟨sv126, h9⟩ := h9
          obtain ⟨sv127, h9⟩ := h9
          obtain ⟨sv128, h9⟩ := h9
          obtain ⟨sv129, h9⟩ := h9
          obtain ⟨sv130, h9⟩ := h9
          obtain ⟨sv131, h9⟩ := h9
          obtain ⟨sv132, h9⟩ := h9
          obtain ⟨sv133, h9⟩ := h9
          obtain ⟨sv134, h9⟩ := h9
          obtain ⟨sv135, h9⟩ := h9
          obtain ⟨sv136, h9⟩ := h9
          obtain ⟨sv137, h9⟩ := h9
          obtain ⟨sv138, h9⟩ := h9
          obtain ⟨sv139, h9⟩ := h9
          obtain ⟨sv140, h9⟩ := h9
          obtain ⟨sv141, h9⟩ := h9
          obtain ⟨sv142, h9⟩ := h9
          obtain ⟨sv143, h9⟩ := h9
          obtain ⟨sv144, h9⟩ := h9
          obtain ⟨sv145, h9⟩ := h9
          obtain ⟨sv146, h9⟩ := h9
          obtain ⟨sv147, h9⟩ := h9
          obtain ⟨sv148, h9⟩ := h9
          obtain ⟨sv149, h9⟩ := h9
          obtain ⟨sv150, h9⟩ := h9
          obtain ⟨sv151, h9⟩ := h9
          obtain ⟨sv152, h9⟩ := h9
          obtain ⟨sv153, h9⟩ := h9
          obtain ⟨sv154, h9⟩ := h9
          obtain ⟨sv155, h9⟩ := h9
          obtain ⟨sv156, h9⟩ := h9
          obtain ⟨sv157, h9⟩ := h9
          obtain ⟨sv158, h9⟩ := h9
          obtain ⟨sv159, h9⟩ := h9
          obtain ⟨sv160, h9⟩ := h9
          obtain ⟨sv161, h9⟩ := h9
          obtain ⟨sv162, h9⟩ := h9
          obtain ⟨sv163, h9⟩ := h9
          obtain ⟨sv164, h9⟩ := h9
          obtain ⟨sv165, h9⟩ := h9
          obtain ⟨sv166, h9⟩ := h9
          obtain ⟨sv167, h9⟩ := h9
          obtain ⟨sv168, h9⟩ := h9
          obtain ⟨sv169, h9⟩ := h9
          obtain ⟨sv170, h9⟩ := h9
          obtain ⟨sv171, h9⟩ := h9
          obtain ⟨sv172, h9⟩ := h9
          obtain ⟨sv173, h9⟩ := h9
          obtain ⟨sv174, h9⟩ := h9
          obtain ⟨sv175, h9⟩ := h9
          obtain ⟨sv176, h9⟩ := h9
          obtain ⟨sv177, h9⟩ := h9
          obtain ⟨sv178, h9⟩ := h9
          obtain ⟨sv179, h9⟩ := h9
          obtain ⟨sv180, h9⟩ := h9
          obtain ⟨sv181, h9⟩ := h9
          obtain ⟨sv182, h9⟩ := h9
          obtain ⟨sv183, h9⟩ := h9
          obtain ⟨sv184, h9⟩ := h9
          obtain ⟨sv185, h9⟩ := h9
          obtain ⟨sv186, h9⟩ := h9
          obtain ⟨sv187, h9⟩ := h9
          obtain ⟨sv188, h9⟩ := h9
          obtain ⟨sv189, h9⟩ := h9
          obtain ⟨sv190, h9⟩ := h9
          obtain ⟨sv191, h9⟩ := h9
          obtain ⟨sv192, h9⟩ := h9
          obtain ⟨sv193, h9⟩ := h9
          obtain ⟨sv194, h9⟩ := h9
          obtain ⟨sv195, h9⟩ := h9
          obtain ⟨sv196, h9⟩ := h9
          obtain ⟨sv197, h9⟩ := h9
          obtain ⟨sv198, h9⟩ := h9
          obtain ⟨sv199, h9⟩ := h9
          obtain ⟨HWX, rfl⟩ := h9
          go_wp2_with fail
          go_roundg (4 - (k + 1))
          case measure => have := HKK.out; omega
          case rel => exact ⟨k + 1, by go_num, by omega, by have := HKK.out; omega, HWX⟩
        · have e1 : decide ((i : Int) < (tl.length : Int)) = false := by simp; omega
          have e2 : decide (i < tl.length) = false := by simpa using hlt
          clear hi hlt
          go_wp2_with fail
          go_roundg (4 - (k + 1))
          case measure => have := HKK.out; omega
          case rel => exact ⟨k + 1, by go_num, by omega, by have := HKK.out; omega, Lib.hid HS.out.a.wb⟩

end Go.Proofs.YtkobeajbiendlaaDoor
