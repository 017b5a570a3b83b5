/- What this text holds: the law CheckerFresh: a turn. No condition. -/
import Derived.Test.YtjggnhcdnfmmeaaL09I
import Derived.Test.YtjggnhcdnfmmeaaSub
import Derived.Deep.CutRange
import Derived.Deep.RegionWith
import Derived.Deep.RegionHeld3
namespace Go.Proofs.Ytjggnhcdnfmmeaa
open Go.RowKit Go.Shelf
attribute [local go_sem] Oper.semAt_some

set_option maxRecDepth 100000 in
set_option maxHeartbeats 8000000 in
theorem fr_round {n : Int} {m : Nat} {A : Option Addr} {cap : Nat} {l : List Tu} {w wr : World} {p pt gt bt k gk : Nat} {X : Nat → Prop} {v : Value} {s : CkS} {es : List En} {ds : List Nat} {df : List Deferred} {ak rd : Bool} {pl wo : Int} {sx0 sx3 sx6 sx8 sx200 su14 su15 su16 su17 su18 su19 su20 su21 su22 su23 su24 su25 su26 su27 su28 su29 su30 su31 su32 su33 su34 su35 su36 su37 su38 su39 su40 su41 su42 su43 su44 su45 su46 su47 su48 su49 su50 su51 su52 su53 su54 su55 su56 su57 su58 su59 su60 su61 su62 su63 su64 su65 su66 su67 su68 su69 su70 su71 su72 su73 su74 su75 su76 su77 su78 su79 su80 su81 su82 su83 su84 su85 su86 su87 su88 su89 su90 su91 su92 su93 su94 su95 su96 su97 su98 su99 su100 su101 su102 su103 su104 su105 su106 su107 su108 su109 su110 su111 su112 su113 su114 su115 su116 su117 su118 su119 su120 su121 su122 su123 su124 su125 su126 su127 su128 su129 su130 su131 su132 su133 su134 su135 su136 su137 su138 su139 su140 su141 su142 su143 su144 su145 su146 su147 su148 su149 su150 su151 su152 su153 su154 su155 su156 su157 su158 su159 su160 su161 su162 su163 su164 su165 su166 su167 su168 su169 su170 su171 su172 su173 su174 su175 su176 su177 su178 su179 su180 su181 su182 su183 su184 su185 su186 su187 su188 su189 su190 su191 su192 su193 su194 su195 su196 su197 su198 su199 : Value} {J : Nat → Act → World → Prop} {K : Act → World → Prop} {Q : Exit → Act → World → Prop}
    (H : Hid (SlU w A l)) (HQ : Hid (Fq X n m w wr p pt gt bt v s es ds ∧ Fr m s es ak pl rd wo)) (H80 : Hid (l.length ≤ 80)) (HDF : Hid (df = ds.map markD))
    (hk : k + gk = l.length) (hlt : k < l.length)
    (hJ : ∀ g a' w', (∃ (df : List Deferred) (sv9 sv10 sv11 sv12 sv13 sv14 sv15 sv16 sv17 sv18 sv19 sv20 sv21 sv22 sv23 sv24 sv25 sv26 sv27 sv28 sv29 sv30 sv31 sv32 sv33 sv34 sv35 sv36 sv37 sv38 sv39 sv40 sv41 sv42 sv43 sv44 sv45 sv46 sv47 sv48 sv49 sv50 sv51 sv52 sv53 sv54 sv55 sv56 sv57 sv58 sv59 sv60 sv61 sv62 sv63 sv64 sv65 sv66 sv67 sv68 sv69 sv70 sv71 sv72 sv73 sv74 sv75 sv76 sv77 sv78 sv79 sv80 sv81 sv82 sv83 sv84 sv85 sv86 sv87 sv88 sv89 sv90 sv91 sv92 sv93 sv94 sv95 sv96 sv97 sv98 sv99 sv100 sv101 sv102 sv103 sv104 sv105 sv106 sv107 sv108 sv109 sv110 sv111 sv112 sv113 sv114 sv115 sv116 sv117 sv118 sv119 sv120 sv121 sv122 sv123 sv124 sv125 sv126 sv127 sv128 sv129 sv130 sv131 sv132 sv133 sv134 sv135 sv136 sv137 sv138 sv139 sv140 sv141 sv142 sv143 sv144 sv145 sv146 sv147 sv148 sv149 sv150 sv151 sv152 sv153 sv154 sv155 sv156 sv157 sv158 sv159 sv160 sv161 sv162 sv163 sv164 sv165 sv166 sv167 sv168 sv169 sv170 sv171 sv172 sv173 sv174 sv175 sv176 sv177 sv178 sv179 sv180 sv181 sv182 sv183 sv184 sv185 sv186 sv187 sv188 sv189 sv190 sv191 sv192 sv193 sv194 sv195 sv196 sv197 sv198 sv199 : Value), (∃ (k : Nat) (ak rd : Bool) (pl wo : Int) (X : Nat → Prop) (v : Value) (s : CkS) (es : List En) (ds : List Nat), sv9 = .bool ak ∧ sv10 = .int .i64 pl ∧ sv11 = .bool rd ∧ sv12 = .int .i64 wo ∧ sv13 = .int .i64 k ∧ df = ds.map markD ∧ k + g = l.length ∧ Hid (Fq X n m w w' p pt gt bt v s es ds ∧ Fr m s es ak pl rd wo)) ∧ a' = { tmps := #[sx0, .slice A l.length cap, .pointer (some ⟨w.heap.size, 0, none⟩), sx3, .pointer (some ⟨w.heap.size + 1, 0, none⟩), .pointer (some ⟨p, 0, none⟩), sx6, .pointer (some ⟨bt, 0, none⟩), sx8, sv9, sv10, sv11, sv12, sv13, sv14, sv15, sv16, sv17, sv18, sv19, sv20, sv21, sv22, sv23, sv24, sv25, sv26, sv27, sv28, sv29, sv30, sv31, sv32, sv33, sv34, sv35, sv36, sv37, sv38, sv39, sv40, sv41, sv42, sv43, sv44, sv45, sv46, sv47, sv48, sv49, sv50, sv51, sv52, sv53, sv54, sv55, sv56, sv57, sv58, sv59, sv60, sv61, sv62, sv63, sv64, sv65, sv66, sv67, sv68, sv69, sv70, sv71, sv72, sv73, sv74, sv75, sv76, sv77, sv78, sv79, sv80, sv81, sv82, sv83, sv84, sv85, sv86, sv87, sv88, sv89, sv90, sv91, sv92, sv93, sv94, sv95, sv96, sv97, sv98, sv99, sv100, sv101, sv102, sv103, sv104, sv105, sv106, sv107, sv108, sv109, sv110, sv111, sv112, sv113, sv114, sv115, sv116, sv117, sv118, sv119, sv120, sv121, sv122, sv123, sv124, sv125, sv126, sv127, sv128, sv129, sv130, sv131, sv132, sv133, sv134, sv135, sv136, sv137, sv138, sv139, sv140, sv141, sv142, sv143, sv144, sv145, sv146, sv147, sv148, sv149, sv150, sv151, sv152, sv153, sv154, sv155, sv156, sv157, sv158, sv159, sv160, sv161, sv162, sv163, sv164, sv165, sv166, sv167, sv168, sv169, sv170, sv171, sv172, sv173, sv174, sv175, sv176, sv177, sv178, sv179, sv180, sv181, sv182, sv183, sv184, sv185, sv186, sv187, sv188, sv189, sv190, sv191, sv192, sv193, sv194, sv195, sv196, sv197, sv198, sv199, sx200], defers := df }) → J g a' w') (hK : ∀ a' w', Handed J gk a' w' → K a' w') :
    (lp Try.f6 0).wp Try.prog (Exit.then K Q) { tmps := #[sx0, .slice A l.length cap, .pointer (some ⟨w.heap.size, 0, none⟩), sx3, .pointer (some ⟨w.heap.size + 1, 0, none⟩), .pointer (some ⟨p, 0, none⟩), sx6, .pointer (some ⟨bt, 0, none⟩), sx8, .bool ak, .int .i64 pl, .bool rd, .int .i64 wo, .int .i64 k, su14, su15, su16, su17, su18, su19, su20, su21, su22, su23, su24, su25, su26, su27, su28, su29, su30, su31, su32, su33, su34, su35, su36, su37, su38, su39, su40, su41, su42, su43, su44, su45, su46, su47, su48, su49, su50, su51, su52, su53, su54, su55, su56, su57, su58, su59, su60, su61, su62, su63, su64, su65, su66, su67, su68, su69, su70, su71, su72, su73, su74, su75, su76, su77, su78, su79, su80, su81, su82, su83, su84, su85, su86, su87, su88, su89, su90, su91, su92, su93, su94, su95, su96, su97, su98, su99, su100, su101, su102, su103, su104, su105, su106, su107, su108, su109, su110, su111, su112, su113, su114, su115, su116, su117, su118, su119, su120, su121, su122, su123, su124, su125, su126, su127, su128, su129, su130, su131, su132, su133, su134, su135, su136, su137, su138, su139, su140, su141, su142, su143, su144, su145, su146, su147, su148, su149, su150, su151, su152, su153, su154, su155, su156, su157, su158, su159, su160, su161, su162, su163, su164, su165, su166, su167, su168, su169, su170, su171, su172, su173, su174, su175, su176, su177, su178, su179, su180, su181, su182, su183, su184, su185, su186, su187, su188, su189, su190, su191, su192, su193, su194, su195, su196, su197, su198, su199, sx200], defers := df } wr := by
  conv => arg 2; whnf
  have hro : Fence.wide.round = none := rfl
  have ek : decide ((k : Int) < (l.length : Int)) = true := by simp; omega
  have hk80 : (k : Int) ≤ 80 := by have := H80.out; omega
  obtain ⟨b, off, rfl, hb, hc⟩ := H.out (by omega)
  have hcc := hc k hlt
  have eb := (HQ.out.1.lr.below.block b hb)
  have o0 := (World.cell?_of_block (a := ⟨b, off + k * 4, none⟩) eb).trans hcc.1
  have o1 := (World.cell?_of_block (a := ⟨b, off + k * 4 + 1, none⟩) eb).trans hcc.2.1
  have o2 := (World.cell?_of_block (a := ⟨b, off + k * 4 + 2, none⟩) eb).trans hcc.2.2.1
  have o3 := (World.cell?_of_block (a := ⟨b, off + k * 4 + 3, none⟩) eb).trans hcc.2.2.2
  have hbr : b < wr.heap.size := by have := HQ.out.1.lr.below.size; omega
  have hb0 : b ≤ w.heap.size := by omega
  have HLT := Lib.hid (And.intro hk hlt)
  clear hc hcc eb hk hlt
  generalize atT l k = o at o0 o1 o2 o3
  obtain ⟨od, og, oo, ol⟩ := o
  dsimp only at o0 o1 o2 o3
  have hkl : (k : Int) < (l.length : Int) := by have := HLT.out; omega
  go_upto_region 14 with (fail)
  iterate 23 go_step
  obtain ⟨W0, hW0⟩ : ∃ W, W = wr.alloc (.cells #[.int .i64 od, .int .i64 og, .int .i64 oo, .bool ol] 61) := ⟨_, rfl⟩
  rw [← hW0]
  obtain ⟨bo, hbo⟩ : ∃ b, b = wr.heap.size := ⟨_, rfl⟩
  have hbx : W0.heap[bo]? = some (.cells #[.int .i64 od, .int .i64 og, .int .i64 oo, .bool ol] 61 (0, 0)) := by rw [hW0]; exact alNew hbo
  have hgb : bo ≠ gt := by have := HQ.out.1.lr.tb.gl; omega
  have HQ0 : Hid (∃ X : Nat → Prop, Fq X n m w W0 p pt gt bt v s es ds ∧ X bo) := Lib.hid ⟨_, HQ.out.1.with (by rw [hW0]; exact ext_alloc _ (Below.refl _ _)) (Nat.le_of_eq hbo.symm) (by rw [hW0, hbo]; simp), .inr rfl⟩
  have HF0 := Lib.hid HQ.out.2
  have HBX := Lib.hid (And.intro hbx hgb)
  rw [← hbo]
  clear HQ hW0 hbx hgb hb hb0 hbr o0 o1 o2 o3 hbo
  obtain ⟨X, hQ0, hXb⟩ := HQ0.out
  have HQ := Lib.hid (And.intro hQ0 hXb)
  clear HQ0 hQ0 hXb
  go_cut [9, 10, 11, 12] from 15 to 150 (fun s9 s10 s11 s12 wd => ∃ (ak rd : Bool) (pl wo : Int), s9 = .bool ak ∧ s10 = .int .i64 pl ∧ s11 = .bool rd ∧ s12 = .int .i64 wo ∧ Hid (∃ v s es, Fq X n m w wd p pt gt bt v s es ds ∧ Fr m s es ak pl rd wo))
  case first =>
    have b0 : W0.cell? ⟨bo, 0, none⟩ = some (.int .i64 od) := by simp [World.cell?, HBX.out.1]
    have b1 : W0.cell? ⟨bo, 1, none⟩ = some (.int .i64 og) := by simp [World.cell?, HBX.out.1]
    have b2 : W0.cell? ⟨bo, 2, none⟩ = some (.int .i64 oo) := by simp [World.cell?, HBX.out.1]
    have b3 : W0.cell? ⟨bo, 3, none⟩ = some (.bool ol) := by simp [World.cell?, HBX.out.1]
    have bl := lt_of HBX.out.1
    have t0 := cell_of HQ.out.1.tp
    have tl := lt_of HQ.out.1.tp
    by_cases h0 : od = 0
    · subst h0
      go_wp2_with fail
      refine (fset X n m w W0 p pt gt v s es og oo ol ak pl rd wo HQ.out.1.lr HF0.out).mono ?_
      rintro e w1 (⟨rfl, hL1, hK1⟩ | ⟨rfl, hL1, h0, h1, ho, hK1⟩)
      · have HR := Lib.hid (show ∃ v s es, Fq X n m w w1 p pt gt bt v s es ds ∧ Fr m s es ak pl rd wo from ⟨v, s, es, HQ.out.1.go hL1 hK1, HF0.out⟩)
        clear hL1 hK1
        go_wp2_with fail
        go_meet
        exact ⟨ak, rd, pl, wo, rfl, rfl, rfl, rfl, HR⟩
      · have hk := (hK1.2 bo HQ.out.2 HBX.out.2).trans HBX.out.1
        have c1 : w1.cell? ⟨bo, 1, none⟩ = some (.int .i64 og) := by simp [World.cell?, hk]
        have cl := lt_of hk
        have HQ1 := Lib.hid (And.intro (HQ.out.1.go hL1 hK1) (And.intro h0 (And.intro h1 ho)))
        clear hL1 hK1 h0 h1 ho hk b0 b1 b2 b3
        go_wp2_with fail
        refine (fdrop_set X n m w w1 p pt gt v s es og (oo, ol) ak pl rd wo HQ1.out.1.lr HF0.out HQ1.out.2.1 HQ1.out.2.2.1 HQ1.out.2.2.2).mono ?_
        rintro e w2 ⟨⟨a2, e2, rfl⟩, v', s', es', hL2, hF2, hK2⟩
        have HR := Lib.hid (show ∃ v s es, Fq X n m w w2 p pt gt bt v s es ds ∧ Fr m s es ak pl rd wo from ⟨v', s', es', HQ1.out.1.go hL2 hK2, hF2⟩)
        clear hL2 hF2 hK2
        go_wp2_with fail
        go_meet
        exact ⟨ak, rd, pl, wo, rfl, rfl, rfl, rfl, HR⟩
    have e0 : (od == 0) = false := by simpa using h0
    by_cases h1 : od = 1
    · subst h1
      clear h0 e0
      go_wp2_with fail
      refine (fbegin X n m w W0 p pt gt v s es og ak pl rd wo HQ.out.1.lr HF0.out).mono ?_
      rintro e w1 (⟨r, rfl, hr, hL1, hK1⟩ | ⟨rfl, s', hL1, hF1, hK1⟩)
      · have HR := Lib.hid (show ∃ v s es, Fq X n m w w1 p pt gt bt v s es ds ∧ Fr m s es ak pl rd wo from ⟨v, s, es, HQ.out.1.go hL1 hK1, HF0.out⟩)
        clear hL1 hK1
        go_wp2_with fail
        go_meet
        exact ⟨ak, rd, pl, wo, rfl, rfl, rfl, rfl, HR⟩
      · have HR := Lib.hid (show ∃ v s es, Fq X n m w w1 p pt gt bt v s es ds ∧ Fr m s es true (og / 4) false wo from ⟨v, s', es, HQ.out.1.go hL1 hK1, hF1⟩)
        clear hL1 hF1 hK1
        obtain ⟨q4, hq4⟩ : ∃ q, q = og / 4 := ⟨_, rfl⟩
        rw [← hq4] at HR ⊢
        clear hq4
        go_wp2_with fail
        go_meet
        exact ⟨true, false, q4, wo, rfl, rfl, rfl, rfl, HR⟩
    have e1 : (od == 1) = false := by simpa using h1
    by_cases h2 : od = 2
    · subst h2
      clear h0 h1 e0 e1
      cases ak
      · have HR := Lib.hid (show ∃ v s es, Fq X n m w W0 p pt gt bt v s es ds ∧ Fr m s es false pl rd wo from ⟨v, s, es, HQ.out.1, HF0.out⟩)
        go_wp2_with fail
        go_meet
        exact ⟨false, rd, pl, wo, rfl, rfl, rfl, rfl, HR⟩
      cases rd
      · go_wp2_with fail
        refine (fword X n m w W0 p pt gt v s es pl false wo HQ.out.1.lr HF0.out).mono ?_
        rintro e w1 ⟨wd', rfl, hL1, hF1, hK1⟩
        have HR := Lib.hid (show ∃ v s es, Fq X n m w w1 p pt gt bt v s es ds ∧ Fr m s es true pl true wd' from ⟨v, s, es, HQ.out.1.go hL1 hK1, hF1⟩)
        clear hL1 hF1 hK1
        go_wp2_with fail
        go_meet
        exact ⟨true, true, pl, wd', rfl, rfl, rfl, rfl, HR⟩
      · have HR := Lib.hid (show ∃ v s es, Fq X n m w W0 p pt gt bt v s es ds ∧ Fr m s es true pl true wo from ⟨v, s, es, HQ.out.1, HF0.out⟩)
        go_wp2_with fail
        go_meet
        exact ⟨true, true, pl, wo, rfl, rfl, rfl, rfl, HR⟩
    have e2 : (od == 2) = false := by simpa using h2
    by_cases h3 : od = 3
    · subst h3
      clear h0 h1 h2 e0 e1 e2
      cases ak
      · have HR := Lib.hid (show ∃ v s es, Fq X n m w W0 p pt gt bt v s es ds ∧ Fr m s es false pl rd wo from ⟨v, s, es, HQ.out.1, HF0.out⟩)
        go_wp2_with fail
        go_meet
        exact ⟨false, rd, pl, wo, rfl, rfl, rfl, rfl, HR⟩
      cases rd
      · have HR := Lib.hid (show ∃ v s es, Fq X n m w W0 p pt gt bt v s es ds ∧ Fr m s es true pl false wo from ⟨v, s, es, HQ.out.1, HF0.out⟩)
        go_wp2_with fail
        go_meet
        exact ⟨true, false, pl, wo, rfl, rfl, rfl, rfl, HR⟩
      · go_wp2_with fail
        refine (fwalked X n m w W0 p pt gt v s es pl wo HQ.out.1.lr HF0.out).mono ?_
        rintro e w1 ⟨nx, ov, rfl, v', s', hL1, hF1, hK1⟩
        have HR := Lib.hid (show ∃ v s es, Fq X n m w w1 p pt gt bt v s es ds ∧ Fr m s es (!ov) nx false wo from ⟨v', s', es, HQ.out.1.go hL1 hK1, hF1⟩)
        clear hL1 hF1 hK1
        go_wp2_with fail
        go_meet
        exact ⟨!ov, false, nx, wo, rfl, rfl, rfl, rfl, HR⟩
    have e3 : (od == 3) = false := by simpa using h3
    by_cases hg : 0 ≤ og
    · have eg : decide (og ≥ 0) = true := by simpa using hg
      clear h0 h1 h2 h3
      go_wp2_with fail
      refine (fdrop X n m w W0 p pt gt v s es og ak pl rd wo HQ.out.1.lr HF0.out hg).mono ?_
      rintro e w1 ⟨⟨a2, e2, rfl⟩, v', s', hL1, hF1, hK1⟩
      have HR := Lib.hid (show ∃ v s es, Fq X n m w w1 p pt gt bt v s es ds ∧ Fr m s es ak pl rd wo from ⟨v', s', es, HQ.out.1.go hL1 hK1, hF1⟩)
      clear hL1 hF1 hK1
      go_wp2_with fail
      go_meet
      exact ⟨ak, rd, pl, wo, rfl, rfl, rfl, rfl, HR⟩
    · have eg : decide (og ≥ 0) = false := by simpa using hg
      have HR := Lib.hid (show ∃ v s es, Fq X n m w W0 p pt gt bt v s es ds ∧ Fr m s es ak pl rd wo from ⟨v, s, es, HQ.out.1, HF0.out⟩)
      clear h0 h1 h2 h3 hg
      go_wp2_with fail
      go_meet
      exact ⟨ak, rd, pl, wo, rfl, rfl, rfl, rfl, HR⟩
  case rest =>
    obtain ⟨ak, rd, pl, wo, rfl, rfl, rfl, rfl, HR⟩ := hcut
    clear HQ HF0 HBX
    obtain ⟨v, s, es, hQ, hF⟩ := HR.out
    have HQ := Lib.hid hQ
    have HF := Lib.hid hF
    clear HR hQ hF
    have hks : s.ks.length ≤ 8 := by have := HQ.out.lr.co.fine.len; have := HQ.out.lr.co.fine.n8; omega
    go_wp2_with fail
    refine (callF_some p v s wc HQ.out.lr.co.ck (by omega)).mono ?_
    rintro e w2 ⟨rfl, v', hFV, hvb, hb⟩
    have HQ2 := Lib.hid (HQ.out.ext hb)
    have HFV := Lib.hid hFV
    have hbF := hFV.lt
    have hgF : ∀ g, v'.ownBlock = some g → g < w2.heap.size := fun g hg => (hFV.own.lt g hg).2
    obtain ⟨bF, hbF2⟩ : ∃ b, b = wc.heap.size := ⟨_, rfl⟩
    rw [← hbF2] at HFV hbF ⊢
    clear hFV hvb hb hbF2 HQ
    have hq := iseq2_nil
    have hz := zero16
    go_wp2_with fail
    clear hq hz
    obtain ⟨W3, hW3⟩ : ∃ W, W = (w2.alloc (.cells #[.int .i64 0] 3)).alloc (.cells zs16 62) := ⟨_, rfl⟩
    have hb3 : Below w2.heap.size w2 W3 := by rw [hW3]; exact ext_alloc _ (ext_alloc _ (Below.refl _ _))
    have hn3 : W3.heap[w2.heap.size]? = some (.cells #[.int .i64 0] 3 (0, 0)) := by rw [hW3]; exact alOld (alNew rfl)
    have hs3 : Seen W3 (w2.heap.size + 1) (fun _ => false) := by
      rw [hW3]
      have := seen_new (w2.alloc (.cells #[.int .i64 0] 3))
      simpa using this
    first | rw [← hW3] | (unfold zs16 at hW3; simp only [Array.replicate_succ, Array.replicate_zero, List.push_toArray, List.nil_append, List.cons_append] at hW3; rw [← hW3])
    clear hW3
    have hw3 : w2.heap.size + 1 < W3.heap.size := hs3.lt
    have HFV3 := Lib.hid (HFV.out.ext hb3)
    obtain ⟨xs, hxs⟩ : ∃ xs : List { f : Fa // FaOk m es f }, xs.map Subtype.val = s.ks := ⟨withP s.ks (HF.out.ok HQ2.out.lr.co.fine), withP_val _ _⟩
    rw [← hxs] at HFV3
    have hxl : xs.length = s.ks.length := by rw [← hxs, List.length_map]
    have hxn : onceF xs := by
      have := HQ2.out.lr.co.fine.one
      rw [← hxs, List.map_map] at this
      exact this
    have HB3 := Lib.hid hb3
    have HX := Lib.hid (And.intro hxl (And.intro hxn hks))
    have hxl8 : xs.length ≤ 8 := by omega
    have hbF3 : bF < W3.heap.size := by omega
    clear hxs hb3 HFV hxl hxn hks
    refine (wpIn_wide (n := 6)).1 ?_
    refine wpIn_rangeFunc_var [(25, 0), (26, 1)] hro (by omega) (gf := 47) (lb := #[.pointer (some ⟨bF, 0, none⟩)]) rfl trivial (enters_of Try.func47 (by kernel_rfl) rfl)
      (facts_stopsP (6 - 1) (by omega) bF v' xs W3 HFV3.out (by omega)) (fun h k => h.trans k) (fun _ => KeepF.refl _ _ _) (fun W l o o' hl ho hc hw => ?kp) (Below.refl _ _) (fun _ => rfl)
      (fun (pre : List { f : Fa // FaOk m es f }) W => (W.heap[w2.heap.size]? = some (.cells #[.int .i64 pre.length] 3 (0, 0)) ∧ Seen W (w2.heap.size + 1) (sn pre) ∧ onceF pre) ∧ Bt W3 W w2.heap.size (w2.heap.size + 1))
      (fun cc (pre : List { f : Fa // FaOk m es f }) _ => cc = .ret ∧ ¬ onceF pre)
      (OwnFrom.and (Own.from (fun s A B row hs hg hr => ⟨blk_held hs.1 hg hr, hs.2.1.held hg hr, hs.2.2⟩) _) (ownFrom_bt (Nat.le_refl _)))
      (fun _ _ _ _ _ hs _ _ => hs)
      ⟨⟨hn3, hs3.of_eq (fun i _ => by simp [sn]), by simp [onceF]⟩, Bt.refl _ _ _⟩ ?assign ?body ?done ?stop
    case kp => exact ⟨World.putObj_heap_other (by omega), fun g hg => World.putObj_heap_other (by have := (HFV3.out.own.lt g hg).2; omega)⟩
    case assign =>
      intro l x W K hK
      unfold varFrame at hK
      simp at hK
      gi_wp2
      exact hK
    case body =>
      rintro l2 pre x W hl hr ⟨⟨hbn, hbs, hnd⟩, hB⟩ hlen
      obtain ⟨x0, x1, x2⟩ := x.2
      obtain ⟨j, hj⟩ := Int.eq_ofNat_of_zero_le x0
      have hm16 := HQ2.out.lr.co.fine.m16
      have hj16 : j < 16 := by omega
      have hQW := HQ2.out
      have hgW : ∀ k, k < w2.heap.size → W.heap[k]? = w2.heap[k]? := fun k hk => (hB.block k (by omega) (by omega) (by omega)).trans (HB3.out.block k hk)
      have htb := hQW.lr.tb.of_blocks (w' := W) (by have := hB.size; omega) (hgW _ hQW.lr.tb.pl) (hgW _ hQW.lr.tb.gl)
      have htp := (hgW _ (lt_of hQW.tp)).trans hQW.tp
      have hre := (hgW _ (lt_of hQW.re)).trans hQW.re
      have t0 := cell_of htp
      have tl := lt_of htp
      have r0 := cell_of hre
      have rf := free_of hre
      have rl := lt_of hre
      have kn := cell_of hbn
      have nf := free_of hbn
      have nl := lt_of hbn
      have ks := hbs.cell hj16
      have sf := hbs.free j
      have sl := hbs.lt
      have hpl : (pre.length : Int) ≤ 8 := by omega
      have hj16' : (j : Int) < 16 := by omega
      have HGET := Lib.hid (get_yes pt gt es x.1.1 W htb x0 (by rw [HF.out.len]; exact x1))
      rw [x2, hj] at HGET
      have HNS := Lib.hid (And.intro hbn (And.intro hbs hnd))
      have HBT := Lib.hid hB
      have HJ := Lib.hid hj
      have hKF : ∀ V : World, Bt W V w2.heap.size (w2.heap.size + 1) → KeepsFrom W3.heap.size W V := fun V hV => ⟨hV.size, fun q o h1 h2 h3 => by
        refine (hV.block q (lt_of h2) (fun e => ?_) (fun e => ?_)).trans h2
        · rw [e, hbn] at h2; cases h2; simp [Obj.isCells] at h3
        · omega⟩
      have hKK : ∀ V : World, Bt W V w2.heap.size (w2.heap.size + 1) → KeepF bF v' W V := fun V hV => ⟨hV.block _ (by have := hB.size; omega) (by have := HFV3.out.lt; omega) (by omega), fun g hg => hV.block _ (by have := hB.size; have := hgF g hg; omega) (by have := hgF g hg; omega) (by have := hgF g hg; omega)⟩
      have HKF := Lib.hid hKF
      have HKK := Lib.hid hKK
      unfold varFrame
      obtain ⟨xo, hxo⟩ : ∃ o, o = x.1.2 := ⟨_, rfl⟩
      simp only [hj, ← hxo] at HGET ⊢
      clear x0 x1 x2 hj hQW hgW htb htp hre hbn hbs hnd hB hKF hKK hl hr hlen
      cases hsn : sn pre j
      · rw [hsn] at ks
        have HSN := Lib.hid hsn
        clear hsn
        gi_wp2_with fail
        refine ⟨trivial, ?_⟩
        refine (CallsIn.inRound l2 (callsIn_wide.2 HGET.out)).mono ?_
        rintro e W4 ⟨rfl, hb⟩
        have HB4 := Lib.hid hb
        have ks4 := (hb.cell (p := ⟨w2.heap.size + 1, j, none⟩) sl).trans ks
        have sf4 := (hb.frozen (p := ⟨w2.heap.size + 1, j, none⟩) sl).trans sf
        have kn4 := (hb.cell (p := ⟨w2.heap.size, 0, none⟩) nl).trans kn
        have nf4 := (hb.frozen (p := ⟨w2.heap.size, 0, none⟩) nl).trans nf
        have sl4 := Nat.lt_of_lt_of_le sl hb.size
        have nl4 := Nat.lt_of_lt_of_le nl hb.size
        clear hb ks sf kn nf sl nl t0 tl r0 rf rl
        gi_wp2_with fail
        have hsz4 : w2.heap.size + 1 < W4.heap.size := sl4
        have hV := (((Bt.refl W w2.heap.size (w2.heap.size + 1)).ext HB4.out).set (w2.heap.size + 1) j (.inr rfl) (.bool true)).set w2.heap.size 0 (.inl rfl) (.int .i64 ((pre.length : Int) + 1)) |>.ext (ext_alloc (.cells #[.int .i64 x.1.2, .bool false] 55) (Below.refl _ _))
        have hV3 := ((HBT.out.ext HB4.out).set (w2.heap.size + 1) j (.inr rfl) (.bool true)).set w2.heap.size 0 (.inl rfl) (.int .i64 ((pre.length : Int) + 1)) |>.ext (ext_alloc (.cells #[.int .i64 x.1.2, .bool false] 55) (Below.refl _ _))
        have hbn4 := (HB4.out.block _ (lt_of HNS.out.1)).trans HNS.out.1
        have h1 := set_of (u := .int .i64 ((pre.length : Int) + 1)) ((Below.heap_setCell W4 ⟨w2.heap.size + 1, j, none⟩ (.bool true) w2.heap.size (by simp)).trans hbn4)
        have h2 := ((HNS.out.2.1.keep (HB4.out.block _ HNS.out.2.1.lt)).set hj16 true).of_eq (fun i _ => sn_snoc pre x j HJ.out i)
        have h3 := h2.keep (Below.heap_setCell _ ⟨w2.heap.size, 0, none⟩ (.int .i64 ((pre.length : Int) + 1)) (w2.heap.size + 1) (by simp))
        refine ⟨HKF.out _ hV, HKK.out _ hV, ⟨?_, h3.keep (Below.heap_alloc _ _ _ h3.lt), onceF_snoc HNS.out.2.2 HJ.out HSN.out⟩, hV3⟩
        rw [List.length_append, List.length_singleton, Int.natCast_add]
        exact alOld h1
      · rw [hsn] at ks
        have HNG : Hid (¬ onceF (pre ++ [x])) := Lib.hid (sn_twice HJ.out hsn)
        clear hsn
        gi_wp2_with fail
        refine ⟨trivial, ?_⟩
        refine (CallsIn.inRound l2 (callsIn_wide.2 HGET.out)).mono ?_
        rintro e W4 ⟨rfl, hb⟩
        have HB4 := Lib.hid hb
        have ks4 := (hb.cell (p := ⟨w2.heap.size + 1, j, none⟩) sl).trans ks
        have r04 := (hb.cell (p := ⟨w.heap.size + 1, 0, none⟩) rl).trans r0
        have rf4 := (hb.frozen (p := ⟨w.heap.size + 1, 0, none⟩) rl).trans rf
        have sl4 := Nat.lt_of_lt_of_le sl hb.size
        have rl4 := Nat.lt_of_lt_of_le rl hb.size
        clear hb ks sf kn nf sl nl t0 tl r0 rf rl
        gi_wp2_with fail
        exact ⟨((KeepsOthers.of_grownBy (grown_of HB4.out) (fun j o e => by cases e)).trans ((KeepsOthers.setCell _ _ _).trans (KeepsOthers.of_grownBy (World.grownBy_alloc _ _ none) (fun j o e => by cases e)))).from _, rfl, HNG.out⟩
    case done =>
      rintro D ys W hD rfl ⟨⟨hbn, hbs, hnd⟩, hB⟩ hK
      have hbW : Below w2.heap.size w2 W := ⟨hB.os.trans HB3.out.os, hB.tape.trans HB3.out.tape, hB.output.trans HB3.out.output, Nat.le_trans HB3.out.size hB.size, fun k hk => (hB.block k (by omega) (by omega) (by omega)).trans (HB3.out.block k hk)⟩
      have HQ4 := Lib.hid (HQ2.out.mark hbW (by have := HB3.out.size; omega) hK)
      have kn := cell_of hbn
      have nl := lt_of hbn
      have HBN := Lib.hid hbn
      clear hbn hbs hnd hB hK hbW hD
      go_wp2_with fail
      have hcw := cwalking_any p v s W HQ4.out.lr.co.ck
      generalize (if s.wk = true then s.g else 0) = q0 at hcw
      generalize (if s.wk = true then s.a else 0) = q1 at hcw
      rw [← HF.out.ask] at hcw
      refine hcw.mono ?_
      clear hcw
      rintro e w5 ⟨rfl, hb⟩
      have HQ5 := Lib.hid (HQ4.out.ext hb)
      have kn5 := (hb.cell (p := ⟨w2.heap.size, 0, none⟩) nl).trans kn
      have nl5 := Nat.lt_of_lt_of_le nl hb.size
      obtain ⟨d0, d1, dl⟩ := cells2 HQ5.out.lr.box
      have en : decide ((ys.length : Int) > n) = false := by have := HQ5.out.lr.co.fine.len; have := HX.out.1; simp; omega
      clear hb kn nl
      go_wp2_with fail
      go_roundg (l.length - (k + 1))
      case measure => have := HLT.out; omega
      case rel =>
        exact ⟨k + 1, ak, rd, pl, wo, _, v, s, es, D :: ds, rfl, rfl, rfl, rfl, by go_num, by rw [HDF.out]; rfl, by have := HLT.out; omega, Lib.hid ⟨HQ5.out, HF.out⟩⟩
    case stop =>
      rintro D cc pre W hD hpre ⟨rfl, hn⟩ hK
      exact absurd (HX.out.2.1.sublist ((List.IsPrefix.sublist hpre).map _)) hn
end Go.Proofs.Ytjggnhcdnfmmeaa
