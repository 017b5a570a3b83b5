/- What this text holds: the law CheckerFresh, walked. No condition. -/
import Derived.Test.YtjggnhcdnfmmeaaL09J
namespace Go.Proofs.Ytjggnhcdnfmmeaa
open Go.RowKit Go.Shelf
attribute [local go_sem] Oper.semAt_some

set_option maxRecDepth 100000 in
set_option maxHeartbeats 4000000 in
theorem fr_loop {n : Int} {m : Nat} {A : Option Addr} {cap : Nat} {l : List Tu} {w wr : World} {p pt gt bt : Nat} {df : List Deferred} {sx0 sx3 sx6 sx8 sx200 su14 su15 su16 su17 su18 su19 su20 su21 su22 su23 su24 su25 su26 su27 su28 su29 su30 su31 su32 su33 su34 su35 su36 su37 su38 su39 su40 su41 su42 su43 su44 su45 su46 su47 su48 su49 su50 su51 su52 su53 su54 su55 su56 su57 su58 su59 su60 su61 su62 su63 su64 su65 su66 su67 su68 su69 su70 su71 su72 su73 su74 su75 su76 su77 su78 su79 su80 su81 su82 su83 su84 su85 su86 su87 su88 su89 su90 su91 su92 su93 su94 su95 su96 su97 su98 su99 su100 su101 su102 su103 su104 su105 su106 su107 su108 su109 su110 su111 su112 su113 su114 su115 su116 su117 su118 su119 su120 su121 su122 su123 su124 su125 su126 su127 su128 su129 su130 su131 su132 su133 su134 su135 su136 su137 su138 su139 su140 su141 su142 su143 su144 su145 su146 su147 su148 su149 su150 su151 su152 su153 su154 su155 su156 su157 su158 su159 su160 su161 su162 su163 su164 su165 su166 su167 su168 su169 su170 su171 su172 su173 su174 su175 su176 su177 su178 su179 su180 su181 su182 su183 su184 su185 su186 su187 su188 su189 su190 su191 su192 su193 su194 su195 su196 su197 su198 su199 : Value} {Q : Exit → Act → World → Prop}
    (H : Hid (SlU w A l)) (H80 : Hid (l.length ≤ 80)) (h0 : ∃ (X : Nat → Prop) (v : Value) (s : CkS) (es : List En), df = ([] : List Nat).map markD ∧ Hid (Fq X n m w wr p pt gt bt v s es [] ∧ Fr m s es false 0 false 0))
    (hend : ∀ a' w', (∃ (df : List Deferred) (sv9 sv10 sv11 sv12 sv13 sv14 sv15 sv16 sv17 sv18 sv19 sv20 sv21 sv22 sv23 sv24 sv25 sv26 sv27 sv28 sv29 sv30 sv31 sv32 sv33 sv34 sv35 sv36 sv37 sv38 sv39 sv40 sv41 sv42 sv43 sv44 sv45 sv46 sv47 sv48 sv49 sv50 sv51 sv52 sv53 sv54 sv55 sv56 sv57 sv58 sv59 sv60 sv61 sv62 sv63 sv64 sv65 sv66 sv67 sv68 sv69 sv70 sv71 sv72 sv73 sv74 sv75 sv76 sv77 sv78 sv79 sv80 sv81 sv82 sv83 sv84 sv85 sv86 sv87 sv88 sv89 sv90 sv91 sv92 sv93 sv94 sv95 sv96 sv97 sv98 sv99 sv100 sv101 sv102 sv103 sv104 sv105 sv106 sv107 sv108 sv109 sv110 sv111 sv112 sv113 sv114 sv115 sv116 sv117 sv118 sv119 sv120 sv121 sv122 sv123 sv124 sv125 sv126 sv127 sv128 sv129 sv130 sv131 sv132 sv133 sv134 sv135 sv136 sv137 sv138 sv139 sv140 sv141 sv142 sv143 sv144 sv145 sv146 sv147 sv148 sv149 sv150 sv151 sv152 sv153 sv154 sv155 sv156 sv157 sv158 sv159 sv160 sv161 sv162 sv163 sv164 sv165 sv166 sv167 sv168 sv169 sv170 sv171 sv172 sv173 sv174 sv175 sv176 sv177 sv178 sv179 sv180 sv181 sv182 sv183 sv184 sv185 sv186 sv187 sv188 sv189 sv190 sv191 sv192 sv193 sv194 sv195 sv196 sv197 sv198 sv199 : Value), (∃ (k : Nat) (ak rd : Bool) (pl wo : Int) (X : Nat → Prop) (v : Value) (s : CkS) (es : List En) (ds : List Nat), sv9 = .bool ak ∧ sv10 = .int .i64 pl ∧ sv11 = .bool rd ∧ sv12 = .int .i64 wo ∧ sv13 = .int .i64 k ∧ df = ds.map markD ∧ k + 0 = l.length ∧ Hid (Fq X n m w w' p pt gt bt v s es ds ∧ Fr m s es ak pl rd wo)) ∧ a' = { tmps := #[sx0, .slice A l.length cap, .pointer (some ⟨w.heap.size, 0, none⟩), sx3, .pointer (some ⟨w.heap.size + 1, 0, none⟩), .pointer (some ⟨p, 0, none⟩), sx6, .pointer (some ⟨bt, 0, none⟩), sx8, sv9, sv10, sv11, sv12, sv13, sv14, sv15, sv16, sv17, sv18, sv19, sv20, sv21, sv22, sv23, sv24, sv25, sv26, sv27, sv28, sv29, sv30, sv31, sv32, sv33, sv34, sv35, sv36, sv37, sv38, sv39, sv40, sv41, sv42, sv43, sv44, sv45, sv46, sv47, sv48, sv49, sv50, sv51, sv52, sv53, sv54, sv55, sv56, sv57, sv58, sv59, sv60, sv61, sv62, sv63, sv64, sv65, sv66, sv67, sv68, sv69, sv70, sv71, sv72, sv73, sv74, sv75, sv76, sv77, sv78, sv79, sv80, sv81, sv82, sv83, sv84, sv85, sv86, sv87, sv88, sv89, sv90, sv91, sv92, sv93, sv94, sv95, sv96, sv97, sv98, sv99, sv100, sv101, sv102, sv103, sv104, sv105, sv106, sv107, sv108, sv109, sv110, sv111, sv112, sv113, sv114, sv115, sv116, sv117, sv118, sv119, sv120, sv121, sv122, sv123, sv124, sv125, sv126, sv127, sv128, sv129, sv130, sv131, sv132, sv133, sv134, sv135, sv136, sv137, sv138, sv139, sv140, sv141, sv142, sv143, sv144, sv145, sv146, sv147, sv148, sv149, sv150, sv151, sv152, sv153, sv154, sv155, sv156, sv157, sv158, sv159, sv160, sv161, sv162, sv163, sv164, sv165, sv166, sv167, sv168, sv169, sv170, sv171, sv172, sv173, sv174, sv175, sv176, sv177, sv178, sv179, sv180, sv181, sv182, sv183, sv184, sv185, sv186, sv187, sv188, sv189, sv190, sv191, sv192, sv193, sv194, sv195, sv196, sv197, sv198, sv199, sx200], defers := df }) → Q (.exit 0) a' w') :
    (Code.loop (lp Try.f6 0)).wp Try.prog Q { tmps := #[sx0, .slice A l.length cap, .pointer (some ⟨w.heap.size, 0, none⟩), sx3, .pointer (some ⟨w.heap.size + 1, 0, none⟩), .pointer (some ⟨p, 0, none⟩), sx6, .pointer (some ⟨bt, 0, none⟩), sx8, .bool false, .int .i64 0, .bool false, .int .i64 0, .int .i64 0, su14, su15, su16, su17, su18, su19, su20, su21, su22, su23, su24, su25, su26, su27, su28, su29, su30, su31, su32, su33, su34, su35, su36, su37, su38, su39, su40, su41, su42, su43, su44, su45, su46, su47, su48, su49, su50, su51, su52, su53, su54, su55, su56, su57, su58, su59, su60, su61, su62, su63, su64, su65, su66, su67, su68, su69, su70, su71, su72, su73, su74, su75, su76, su77, su78, su79, su80, su81, su82, su83, su84, su85, su86, su87, su88, su89, su90, su91, su92, su93, su94, su95, su96, su97, su98, su99, su100, su101, su102, su103, su104, su105, su106, su107, su108, su109, su110, su111, su112, su113, su114, su115, su116, su117, su118, su119, su120, su121, su122, su123, su124, su125, su126, su127, su128, su129, su130, su131, su132, su133, su134, su135, su136, su137, su138, su139, su140, su141, su142, su143, su144, su145, su146, su147, su148, su149, su150, su151, su152, su153, su154, su155, su156, su157, su158, su159, su160, su161, su162, su163, su164, su165, su166, su167, su168, su169, su170, su171, su172, su173, su174, su175, su176, su177, su178, su179, su180, su181, su182, su183, su184, su185, su186, su187, su188, su189, su190, su191, su192, su193, su194, su195, su196, su197, su198, su199, sx200], defers := df } wr := by
  refine wp_loop_ghost (fun g a' w' => ∃ (df : List Deferred) (sv9 sv10 sv11 sv12 sv13 sv14 sv15 sv16 sv17 sv18 sv19 sv20 sv21 sv22 sv23 sv24 sv25 sv26 sv27 sv28 sv29 sv30 sv31 sv32 sv33 sv34 sv35 sv36 sv37 sv38 sv39 sv40 sv41 sv42 sv43 sv44 sv45 sv46 sv47 sv48 sv49 sv50 sv51 sv52 sv53 sv54 sv55 sv56 sv57 sv58 sv59 sv60 sv61 sv62 sv63 sv64 sv65 sv66 sv67 sv68 sv69 sv70 sv71 sv72 sv73 sv74 sv75 sv76 sv77 sv78 sv79 sv80 sv81 sv82 sv83 sv84 sv85 sv86 sv87 sv88 sv89 sv90 sv91 sv92 sv93 sv94 sv95 sv96 sv97 sv98 sv99 sv100 sv101 sv102 sv103 sv104 sv105 sv106 sv107 sv108 sv109 sv110 sv111 sv112 sv113 sv114 sv115 sv116 sv117 sv118 sv119 sv120 sv121 sv122 sv123 sv124 sv125 sv126 sv127 sv128 sv129 sv130 sv131 sv132 sv133 sv134 sv135 sv136 sv137 sv138 sv139 sv140 sv141 sv142 sv143 sv144 sv145 sv146 sv147 sv148 sv149 sv150 sv151 sv152 sv153 sv154 sv155 sv156 sv157 sv158 sv159 sv160 sv161 sv162 sv163 sv164 sv165 sv166 sv167 sv168 sv169 sv170 sv171 sv172 sv173 sv174 sv175 sv176 sv177 sv178 sv179 sv180 sv181 sv182 sv183 sv184 sv185 sv186 sv187 sv188 sv189 sv190 sv191 sv192 sv193 sv194 sv195 sv196 sv197 sv198 sv199 : Value), (∃ (k : Nat) (ak rd : Bool) (pl wo : Int) (X : Nat → Prop) (v : Value) (s : CkS) (es : List En) (ds : List Nat), sv9 = .bool ak ∧ sv10 = .int .i64 pl ∧ sv11 = .bool rd ∧ sv12 = .int .i64 wo ∧ sv13 = .int .i64 k ∧ df = ds.map markD ∧ k + g = l.length ∧ Hid (Fq X n m w w' p pt gt bt v s es ds ∧ Fr m s es ak pl rd wo)) ∧ a' = { tmps := #[sx0, .slice A l.length cap, .pointer (some ⟨w.heap.size, 0, none⟩), sx3, .pointer (some ⟨w.heap.size + 1, 0, none⟩), .pointer (some ⟨p, 0, none⟩), sx6, .pointer (some ⟨bt, 0, none⟩), sx8, sv9, sv10, sv11, sv12, sv13, sv14, sv15, sv16, sv17, sv18, sv19, sv20, sv21, sv22, sv23, sv24, sv25, sv26, sv27, sv28, sv29, sv30, sv31, sv32, sv33, sv34, sv35, sv36, sv37, sv38, sv39, sv40, sv41, sv42, sv43, sv44, sv45, sv46, sv47, sv48, sv49, sv50, sv51, sv52, sv53, sv54, sv55, sv56, sv57, sv58, sv59, sv60, sv61, sv62, sv63, sv64, sv65, sv66, sv67, sv68, sv69, sv70, sv71, sv72, sv73, sv74, sv75, sv76, sv77, sv78, sv79, sv80, sv81, sv82, sv83, sv84, sv85, sv86, sv87, sv88, sv89, sv90, sv91, sv92, sv93, sv94, sv95, sv96, sv97, sv98, sv99, sv100, sv101, sv102, sv103, sv104, sv105, sv106, sv107, sv108, sv109, sv110, sv111, sv112, sv113, sv114, sv115, sv116, sv117, sv118, sv119, sv120, sv121, sv122, sv123, sv124, sv125, sv126, sv127, sv128, sv129, sv130, sv131, sv132, sv133, sv134, sv135, sv136, sv137, sv138, sv139, sv140, sv141, sv142, sv143, sv144, sv145, sv146, sv147, sv148, sv149, sv150, sv151, sv152, sv153, sv154, sv155, sv156, sv157, sv158, sv159, sv160, sv161, sv162, sv163, sv164, sv165, sv166, sv167, sv168, sv169, sv170, sv171, sv172, sv173, sv174, sv175, sv176, sv177, sv178, sv179, sv180, sv181, sv182, sv183, sv184, sv185, sv186, sv187, sv188, sv189, sv190, sv191, sv192, sv193, sv194, sv195, sv196, sv197, sv198, sv199, sx200], defers := df }) l.length ?_ ?_
  · obtain ⟨X, v, s, es, hdf, HQ⟩ := h0
    exact ⟨df, _, _, _, _, _, _, _, _, _, _, _, _, _, _, _, _, _, _, _, _, _, _, _, _, _, _, _, _, _, _, _, _, _, _, _, _, _, _, _, _, _, _, _, _, _, _, _, _, _, _, _, _, _, _, _, _, _, _, _, _, _, _, _, _, _, _, _, _, _, _, _, _, _, _, _, _, _, _, _, _, _, _, _, _, _, _, _, _, _, _, _, _, _, _, _, _, _, _, _, _, _, _, _, _, _, _, _, _, _, _, _, _, _, _, _, _, _, _, _, _, _, _, _, _, _, _, _, _, _, _, _, _, _, _, _, _, _, _, _, _, _, _, _, _, _, _, _, _, _, _, _, _, _, _, _, _, _, _, _, _, _, _, _, _, _, _, _, _, _, _, _, _, _, _, _, _, _, _, _, _, _, _, _, _, _, _, _, _, _, _, _, ⟨0, false, false, 0, 0, X, v, s, es, [], rfl, rfl, rfl, rfl, rfl, hdf, by omega, HQ⟩, rfl⟩
  · rintro g a w' ⟨df, h9⟩
    obtain ⟨su9, h9⟩ := h9
    obtain ⟨su10, h9⟩ := h9
    obtain ⟨su11, h9⟩ := h9
    obtain ⟨su12, h9⟩ := h9
    obtain ⟨su13, h9⟩ := h9
    obtain ⟨su14, h9⟩ := h9
    obtain ⟨su15, h9⟩ := h9
    obtain ⟨su16, h9⟩ := h9
    obtain ⟨su17, h9⟩ := h9
    obtain ⟨su18, h9⟩ := h9
    obtain ⟨su19, h9⟩ := h9
    obtain ⟨su20, h9⟩ := h9
    obtain ⟨su21, h9⟩ := h9
    obtain ⟨su22, h9⟩ := h9
    obtain ⟨su23, h9⟩ := h9
    obtain ⟨su24, h9⟩ := h9
    obtain ⟨su25, h9⟩ := h9
    obtain ⟨su26, h9⟩ := h9
    obtain ⟨su27, h9⟩ := h9
    obtain ⟨su28, h9⟩ := h9
    obtain ⟨su29, h9⟩ := h9
    obtain ⟨su30, h9⟩ := h9
    obtain ⟨su31, h9⟩ := h9
    obtain ⟨su32, h9⟩ := h9
    obtain ⟨su33, h9⟩ := h9
    obtain ⟨su34, h9⟩ := h9
    obtain ⟨su35, h9⟩ := h9
    obtain ⟨su36, h9⟩ := h9
    obtain ⟨su37, h9⟩ := h9
    obtain ⟨su38, h9⟩ := h9
    obtain ⟨su39, h9⟩ := h9
    obtain ⟨su40, h9⟩ := h9
    obtain ⟨su41, h9⟩ := h9
    obtain ⟨su42, h9⟩ := h9
    obtain ⟨su43, h9⟩ := h9
    obtain ⟨su44, h9⟩ := h9
    obtain ⟨su45, h9⟩ := h9
    obtain ⟨su46, h9⟩ := h9
    obtain ⟨su47, h9⟩ := h9
    obtain ⟨su48, h9⟩ := h9
    obtain ⟨su49, h9⟩ := h9
    obtain ⟨su50, h9⟩ := h9
    obtain ⟨su51, h9⟩ := h9
    obtain ⟨su52, h9⟩ := h9
    obtain ⟨su53, h9⟩ := h9
    obtain ⟨su54, h9⟩ := h9
    obtain ⟨su55, h9⟩ := h9
    obtain ⟨su56, h9⟩ := h9
    obtain ⟨su57, h9⟩ := h9
    obtain ⟨su58, h9⟩ := h9
    obtain ⟨su59, h9⟩ := h9
    obtain ⟨su60, h9⟩ := h9
    obtain ⟨su61, h9⟩ := h9
    obtain ⟨su62, h9⟩ := h9
    obtain ⟨su63, h9⟩ := h9
    obtain ⟨su64, h9⟩ := h9
    obtain ⟨su65, h9⟩ := h9
    obtain ⟨su66, h9⟩ := h9
    obtain ⟨su67, h9⟩ := h9
    obtain ⟨su68, h9⟩ := h9
    obtain ⟨su69, h9⟩ := h9
    obtain ⟨su70, h9⟩ := h9
    obtain ⟨su71, h9⟩ := h9
    obtain ⟨su72, h9⟩ := h9
    obtain ⟨su73, h9⟩ := h9
    obtain ⟨su74, h9⟩ := h9
    obtain ⟨su75, h9⟩ := h9
    obtain ⟨su76, h9⟩ := h9
    obtain ⟨su77, h9⟩ := h9
    obtain ⟨su78, h9⟩ := h9
    obtain ⟨su79, h9⟩ := h9
    obtain ⟨su80, h9⟩ := h9
    obtain ⟨su81, h9⟩ := h9
    obtain ⟨su82, h9⟩ := h9
    obtain ⟨su83, h9⟩ := h9
    obtain ⟨su84, h9⟩ := h9
    obtain ⟨su85, h9⟩ := h9
    obtain ⟨su86, h9⟩ := h9
    obtain ⟨su87, h9⟩ := h9
    obtain ⟨su88, h9⟩ := h9
    obtain ⟨su89, h9⟩ := h9
    obtain ⟨su90, h9⟩ := h9
    obtain ⟨su91, h9⟩ := h9
    obtain ⟨su92, h9⟩ := h9
    obtain ⟨su93, h9⟩ := h9
    obtain ⟨su94, h9⟩ := h9
    obtain ⟨su95, h9⟩ := h9
    obtain ⟨su96, h9⟩ := h9
    obtain ⟨su97, h9⟩ := h9
    obtain ⟨su98, h9⟩ := h9
    obtain ⟨su99, h9⟩ := h9
    obtain ⟨su100, h9⟩ := h9
    obtain ⟨su101, h9⟩ := h9
    obtain ⟨su102, h9⟩ := h9
    obtain ⟨su103, h9⟩ := h9
    obtain ⟨su104, h9⟩ := h9
    obtain ⟨su105, h9⟩ := h9
    obtain ⟨su106, h9⟩ := h9
    obtain ⟨su107, h9⟩ := h9
    obtain ⟨su108, h9⟩ := h9
    obtain ⟨su109, h9⟩ := h9
    obtain ⟨su110, h9⟩ := h9
    obtain ⟨su111, h9⟩ := h9
    obtain ⟨su112, h9⟩ := h9
    obtain ⟨su113, h9⟩ := h9
    obtain ⟨su114, h9⟩ := h9
    obtain ⟨su115, h9⟩ := h9
    obtain ⟨su116, h9⟩ := h9
    obtain ⟨su117, h9⟩ := h9
    obtain ⟨su118, h9⟩ := h9
    obtain ⟨su119, h9⟩ := h9
    obtain ⟨su120, h9⟩ := h9
    obtain ⟨su121, h9⟩ := h9
    obtain ⟨su122, h9⟩ := h9
    obtain ⟨su123, h9⟩ := h9
    obtain ⟨su124, h9⟩ := h9
    obtain ⟨su125, h9⟩ := h9
    obtain ⟨su126, h9⟩ := h9
    obtain ⟨su127, h9⟩ := h9
    obtain ⟨su128, h9⟩ := h9
    obtain ⟨su129, h9⟩ := h9
    obtain ⟨su130, h9⟩ := h9
    obtain ⟨su131, h9⟩ := h9
    obtain ⟨su132, h9⟩ := h9
    obtain ⟨su133, h9⟩ := h9
    obtain ⟨su134, h9⟩ := h9
    obtain ⟨su135, h9⟩ := h9
    obtain ⟨su136, h9⟩ := h9
    obtain ⟨su137, h9⟩ := h9
    obtain ⟨su138, h9⟩ := h9
    obtain ⟨su139, h9⟩ := h9
    obtain ⟨su140, h9⟩ := h9
    obtain ⟨su141, h9⟩ := h9
    obtain ⟨su142, h9⟩ := h9
    obtain ⟨su143, h9⟩ := h9
    obtain ⟨su144, h9⟩ := h9
    obtain ⟨su145, h9⟩ := h9
    obtain ⟨su146, h9⟩ := h9
    obtain ⟨su147, h9⟩ := h9
    obtain ⟨su148, h9⟩ := h9
    obtain ⟨su149, h9⟩ := h9
    obtain ⟨su150, h9⟩ := h9
    obtain ⟨su151, h9⟩ := h9
    obtain ⟨su152, h9⟩ := h9
    obtain ⟨su153, h9⟩ := h9
    obtain ⟨su154, h9⟩ := h9
    obtain ⟨su155, h9⟩ := h9
    obtain ⟨su156, h9⟩ := h9
    obtain ⟨su157, h9⟩ := h9
    obtain ⟨su158, h9⟩ := h9
    obtain ⟨su159, h9⟩ := h9
    obtain ⟨su160, h9⟩ := h9
    obtain ⟨su161, h9⟩ := h9
    obtain ⟨su162, h9⟩ := h9
    obtain ⟨su163, h9⟩ := h9
    obtain ⟨su164, h9⟩ := h9
    obtain ⟨su165, h9⟩ := h9
    obtain ⟨su166, h9⟩ := h9
    obtain ⟨su167, h9⟩ := h9
    obtain ⟨su168, h9⟩ := h9
    obtain ⟨su169, h9⟩ := h9
    obtain ⟨su170, h9⟩ := h9
    obtain ⟨su171, h9⟩ := h9
    obtain ⟨su172, h9⟩ := h9
    obtain ⟨su173, h9⟩ := h9
    obtain ⟨su174, h9⟩ := h9
    obtain ⟨su175, h9⟩ := h9
    obtain ⟨su176, h9⟩ := h9
    obtain ⟨su177, h9⟩ := h9
    obtain ⟨su178, h9⟩ := h9
    obtain ⟨su179, h9⟩ := h9
    obtain ⟨su180, h9⟩ := h9
    obtain ⟨su181, h9⟩ := h9
    obtain ⟨su182, h9⟩ := h9
    obtain ⟨su183, h9⟩ := h9
    obtain ⟨su184, h9⟩ := h9
    obtain ⟨su185, h9⟩ := h9
    obtain ⟨su186, h9⟩ := h9
    obtain ⟨su187, h9⟩ := h9
    obtain ⟨su188, h9⟩ := h9
    obtain ⟨su189, h9⟩ := h9
    obtain ⟨su190, h9⟩ := h9
    obtain ⟨su191, h9⟩ := h9
    obtain ⟨su192, h9⟩ := h9
    obtain ⟨su193, h9⟩ := h9
    obtain ⟨su194, h9⟩ := h9
    obtain ⟨su195, h9⟩ := h9
    obtain ⟨su196, h9⟩ := h9
    obtain ⟨su197, h9⟩ := h9
    obtain ⟨su198, h9⟩ := h9
    obtain ⟨su199, h9⟩ := h9
    obtain ⟨⟨k, ak, rd, pl, wo, X, v, s, es, ds, rfl, rfl, rfl, rfl, rfl, hdf, hk, HQ⟩, rfl⟩ := h9
    by_cases hlt : k < l.length
    · exact fr_round H HQ H80 (Lib.hid hdf) hk hlt (fun _ _ _ h => h) (fun _ _ h => h)
    · have ek : decide ((k : Int) < (l.length : Int)) = false := by simp; omega
      have ek2 : decide (k < l.length) = false := by simpa using hlt
      conv => arg 2; whnf
      have hkk : k + 0 = l.length := by omega
      have HK := Lib.hid hkk
      have HDF := Lib.hid hdf
      clear hk hlt hkk h0 hdf
      go_wp2_with fail
      exact ⟨df, _, _, _, _, _, _, _, _, _, _, _, _, _, _, _, _, _, _, _, _, _, _, _, _, _, _, _, _, _, _, _, _, _, _, _, _, _, _, _, _, _, _, _, _, _, _, _, _, _, _, _, _, _, _, _, _, _, _, _, _, _, _, _, _, _, _, _, _, _, _, _, _, _, _, _, _, _, _, _, _, _, _, _, _, _, _, _, _, _, _, _, _, _, _, _, _, _, _, _, _, _, _, _, _, _, _, _, _, _, _, _, _, _, _, _, _, _, _, _, _, _, _, _, _, _, _, _, _, _, _, _, _, _, _, _, _, _, _, _, _, _, _, _, _, _, _, _, _, _, _, _, _, _, _, _, _, _, _, _, _, _, _, _, _, _, _, _, _, _, _, _, _, _, _, _, _, _, _, _, _, _, _, _, _, _, _, _, _, _, _, _, ⟨k, ak, rd, pl, wo, X, v, s, es, ds, rfl, rfl, rfl, rfl, rfl, HDF.out, HK.out, HQ⟩, rfl⟩

/-- A checker and a table, both new. -/
theorem Fq.first {n : Int} {m : Nat} {w W w1 w2 : World} (b1 : 1 ≤ n) (b2 : n ≤ 8) (b3 : 1 ≤ m) (b4 : m ≤ 16) (hW : W = (w.alloc (.cells #[.int .i64 n, .int .i64 m] 22)).alloc (.cells #[.bool false] 4)) (hC : Ck w1 W.heap.size (.slice none 0 0) ⟨false, 0, 0, false, n, m, []⟩) (hb1 : Below W.heap.size W w1)
    (hT : Tb w2 (w1.heap.size + 1) w1.heap.size (List.replicate m (0, false))) (hb2 : Below w1.heap.size w1 w2) : Fq (fun k => k ≤ w.heap.size + 1 ∨ k = w1.heap.size ∨ k = w1.heap.size + 1 ∨ k = w2.heap.size) n m w (w2.alloc (.cells #[.pointer (some ⟨w1.heap.size + 1, 0, none⟩)] 50)) W.heap.size (w1.heap.size + 1) w1.heap.size w2.heap.size (.slice none 0 0) ⟨false, 0, 0, false, n, m, []⟩ (List.replicate m (0, false)) [] := by
  have hs : W.heap.size = w.heap.size + 2 := by rw [hW]; simp
  have hbx : W.heap[w.heap.size]? = some (.cells #[.int .i64 n, .int .i64 m] 22 (0, 0)) := by rw [hW]; exact alOld (alNew rfl)
  have hrx : W.heap[w.heap.size + 1]? = some (.cells #[.bool false] 4 (0, 0)) := by rw [hW]; exact alNew (by simp)
  have h1 := hC.lt
  have h2 := hT.pl
  have hbW : Below w.heap.size w W := by rw [hW]; exact ext_alloc _ (ext_alloc _ (Below.refl _ _))
  have hb3 : Below w2.heap.size w2 (w2.alloc (.cells #[.pointer (some ⟨w1.heap.size + 1, 0, none⟩)] 50)) := ext_alloc _ (Below.refl _ _)
  have hc := ((Co.begun b1 b2 (by omega) (by omega) hC).ext hb2).ext hb3
  have hall := ext_trans hb2 hb3
  refine ⟨⟨{ hc with lim := fun k hk => ?_, bp := fun e => ?_, bv := fun g e => by cases e }, hT.ext hb3, ext_trans hbW (ext_trans hb1 hall), (hall.block _ (by omega)).trans ((hb1.block _ (by omega)).trans hbx), fun k hk => .inl (by omega), .inr (.inr (.inl rfl)), .inr (.inl rfl), by omega⟩,
    (hall.block _ (by omega)).trans ((hb1.block _ (by omega)).trans hrx), alNew rfl, List.nodup_nil, fun D hD => by simp at hD, .inl (Nat.le_refl _), .inr (.inr (.inr rfl)), by omega, by omega⟩
  · simp
    omega
  · omega

set_option maxRecDepth 100000 in
theorem fresh_out (n m : Int) (A : Option Addr) (k cap : Nat) (w : World) (h : may9B n m = false ∨ 80 < k) :
    Calls Try.prog 6 #[.agg #[.int .i64 n, .int .i64 m], .slice A k cap] w fun e w' => e = .returned (.bool true) ∧ Below w.heap.size w w' := by
  obtain ⟨W, hW⟩ : ∃ W, W = (w.alloc (.cells #[.int .i64 n, .int .i64 m] 22)).alloc (.cells #[.bool false] 4) := ⟨_, rfl⟩
  obtain ⟨c0, c1, cl⟩ := cells2 (show W.heap[w.heap.size]? = some (.cells #[.int .i64 n, .int .i64 m] 22 (0, 0)) by rw [hW]; exact alOld (alNew rfl))
  have HR := Lib.hid (show W.heap[w.heap.size + 1]? = some (.cells #[.bool false] 4 (0, 0)) by rw [hW]; exact alNew (by simp))
  have HB := Lib.hid (show Below w.heap.size w W by rw [hW]; exact ext_alloc _ (ext_alloc _ (Below.refl _ _)))
  have HW := Lib.hid hW
  clear hW
  cases hm : may9B n m
  · have HM := Lib.hid hm
    clear h hm
    go_enter Try.func6, Try.ntmps6
    go_wp2_with (rw [← HW.out])
    refine (may9_any n m W).mono ?_
    rintro e w1 ⟨rfl, hw⟩
    subst hw
    rw [HM.out]
    go_wp2_with fail
    refine (awake09 _).mono ?_
    rintro e w2 ⟨rfl, hb⟩
    have hr := (hb.block _ (lt_of HR.out)).trans HR.out
    have r0 := cell_of hr
    have rf := free_of hr
    have rl := lt_of hr
    have kk := World.cell?_setCell_same w2 ⟨w.heap.size + 1, 0, none⟩ (.bool true) r0
    have HB2 := Lib.hid (ext_trans HB.out hb)
    clear hb hr
    go_wp2_with fail
    (try simp only [Exit.inBlock, Exit.then]); refine bodyPost_ret (by simp [results, Try.results6, go_sem, kk]; try rfl) rfl ?_
    exact ⟨rfl, HB2.out.setCell (p := ⟨w.heap.size + 1, 0, none⟩) (by simp) _⟩
  have HM := Lib.hid hm
  have hk : 80 < k := by
    rcases h with h | h
    · rw [h] at hm; cases hm
    · exact h
  clear hm h
  have e1 : decide ((k : Int) > 80) = true := by simp; omega
  go_enter Try.func6, Try.ntmps6
  go_wp2_with (rw [← HW.out])
  refine (may9_any n m W).mono ?_
  rintro e w1 ⟨rfl, hw⟩
  subst hw
  rw [HM.out]
  go_wp2_with fail
  refine (awake09 _).mono ?_
  rintro e w2 ⟨rfl, hb⟩
  have hr := (hb.block _ (lt_of HR.out)).trans HR.out
  have r0 := cell_of hr
  have rf := free_of hr
  have rl := lt_of hr
  have kk := World.cell?_setCell_same w2 ⟨w.heap.size + 1, 0, none⟩ (.bool true) r0
  have HB2 := Lib.hid (ext_trans HB.out hb)
  clear hb hr
  go_wp2_with fail
  (try simp only [Exit.inBlock, Exit.then]); refine bodyPost_ret (by simp [results, Try.results6, go_sem, kk]; try rfl) rfl ?_
  exact ⟨rfl, HB2.out.setCell (p := ⟨w.heap.size + 1, 0, none⟩) (by simp) _⟩

set_option maxRecDepth 100000 in
set_option maxHeartbeats 4000000 in
theorem fresh_in (n : Int) (m : Nat) (A : Option Addr) (l : List Tu) (cap : Nat) (w : World) (h : SlU w A l) (hm : may9B n m = true) (hl : l.length ≤ 80) :
    Calls Try.prog 6 #[.agg #[.int .i64 n, .int .i64 m], .slice A l.length cap] w fun e w' => e = .returned (.bool true) ∧ Below w.heap.size w w' := by
  have hbd : 1 ≤ n ∧ n ≤ 8 ∧ 1 ≤ (m : Int) ∧ (m : Int) ≤ 16 := by simpa [may9B, and_assoc] using hm
  obtain ⟨b1, b2, b3, b4⟩ := hbd
  obtain ⟨W, hW⟩ : ∃ W, W = (w.alloc (.cells #[.int .i64 n, .int .i64 m] 22)).alloc (.cells #[.bool false] 4) := ⟨_, rfl⟩
  have hbx : W.heap[w.heap.size]? = some (.cells #[.int .i64 n, .int .i64 m] 22 (0, 0)) := by rw [hW]; exact alOld (alNew rfl)
  have HBX := Lib.hid hbx
  obtain ⟨c0, c1, cl⟩ := cells2 hbx
  have HW := Lib.hid hW
  have H := Lib.hid h
  have H80 := Lib.hid hl
  have HM := Lib.hid hm
  have e1 : decide ((l.length : Int) > 80) = false := by simp; omega
  have hl80 : (l.length : Int) ≤ 80 := by omega
  clear hW hbx h hm hl
  refine (callsIn_wide (n := 6)).1 ?_
  have hro : Fence.wide.round = none := rfl
  refine callsIn_of_wp_marks Try.func6 rfl trivial ?_ hro
  simp only [Try.ntmps6, List.size_toArray, List.length_cons, List.length_nil, Nat.reduceAdd, Nat.reduceSub, Array.replicate_succ, Array.replicate_zero, List.push_toArray, List.append_toArray, List.nil_append, List.cons_append]
  refine wpIn_wide.2 ?_
  go_wp2_with (rw [← HW.out])
  refine (may9_any n m W).mono ?_
  rintro e w0 ⟨rfl, hw⟩
  subst hw
  rw [HM.out]
  go_wp2_with fail
  refine (cnew_ok n m w0 b1 b2 b3 b4).mono ?_
  rintro e w1 ⟨rfl, hC, hb⟩
  have HC := Lib.hid hC
  have HB1 := Lib.hid hb
  obtain ⟨d0, d1, dl⟩ := cells2 ((hb.block _ cl).trans HBX.out)
  clear hC hb c0 c1
  go_wp2_with fail
  refine (new_ok m w1 (by omega) (by omega)).mono ?_
  rintro e w2 ⟨rfl, hT, hb, hz⟩
  clear hz
  have HL := Lib.hid (Fq.first b1 b2 (by omega) (by omega) HW.out HC.out HB1.out hT hb)
  obtain ⟨d2, d3, dl2⟩ := cells2 ((hb.block _ dl).trans ((HB1.out.block _ cl).trans HBX.out))
  clear hT hb d0 d1
  go_wp2_with fail
  generalize hX : (fun k => k ≤ w.heap.size + 1 ∨ k = w1.heap.size ∨ k = w1.heap.size + 1 ∨ k = w2.heap.size) = X at HL
  refine fr_loop (m := m) (n := n) (pt := w1.heap.size + 1) (gt := w1.heap.size) (df := []) H H80 ⟨X, _, _, _, rfl, Lib.hid ⟨HL.out, Fr.new n m 0 0 false⟩⟩ ?_
  rintro a' w' ⟨df, h9⟩
  obtain ⟨su9, h9⟩ := h9
  obtain ⟨su10, h9⟩ := h9
  obtain ⟨su11, h9⟩ := h9
  obtain ⟨su12, h9⟩ := h9
  obtain ⟨su13, h9⟩ := h9
  obtain ⟨su14, h9⟩ := h9
  obtain ⟨su15, h9⟩ := h9
  obtain ⟨su16, h9⟩ := h9
  obtain ⟨su17, h9⟩ := h9
  obtain ⟨su18, h9⟩ := h9
  obtain ⟨su19, h9⟩ := h9
  obtain ⟨su20, h9⟩ := h9
  obtain ⟨su21, h9⟩ := h9
  obtain ⟨su22, h9⟩ := h9
  obtain ⟨su23, h9⟩ := h9
  obtain ⟨su24, h9⟩ := h9
  obtain ⟨su25, h9⟩ := h9
  obtain ⟨su26, h9⟩ := h9
  obtain ⟨su27, h9⟩ := h9
  obtain ⟨su28, h9⟩ := h9
  obtain ⟨su29, h9⟩ := h9
  obtain ⟨su30, h9⟩ := h9
  obtain ⟨su31, h9⟩ := h9
  obtain ⟨su32, h9⟩ := h9
  obtain ⟨su33, h9⟩ := h9
  obtain ⟨su34, h9⟩ := h9
  obtain ⟨su35, h9⟩ := h9
  obtain ⟨su36, h9⟩ := h9
  obtain ⟨su37, h9⟩ := h9
  obtain ⟨su38, h9⟩ := h9
  obtain ⟨su39, h9⟩ := h9
  obtain ⟨su40, h9⟩ := h9
  obtain ⟨su41, h9⟩ := h9
  obtain ⟨su42, h9⟩ := h9
  obtain ⟨su43, h9⟩ := h9
  obtain ⟨su44, h9⟩ := h9
  obtain ⟨su45, h9⟩ := h9
  obtain ⟨su46, h9⟩ := h9
  obtain ⟨su47, h9⟩ := h9
  obtain ⟨su48, h9⟩ := h9
  obtain ⟨su49, h9⟩ := h9
  obtain ⟨su50, h9⟩ := h9
  obtain ⟨su51, h9⟩ := h9
  obtain ⟨su52, h9⟩ := h9
  obtain ⟨su53, h9⟩ := h9
  obtain ⟨su54, h9⟩ := h9
  obtain ⟨su55, h9⟩ := h9
  obtain ⟨su56, h9⟩ := h9
  obtain ⟨su57, h9⟩ := h9
  obtain ⟨su58, h9⟩ := h9
  obtain ⟨su59, h9⟩ := h9
  obtain ⟨su60, h9⟩ := h9
  obtain ⟨su61, h9⟩ := h9
  obtain ⟨su62, h9⟩ := h9
  obtain ⟨su63, h9⟩ := h9
  obtain ⟨su64, h9⟩ := h9
  obtain ⟨su65, h9⟩ := h9
  obtain ⟨su66, h9⟩ := h9
  obtain ⟨su67, h9⟩ := h9
  obtain ⟨su68, h9⟩ := h9
  obtain ⟨su69, h9⟩ := h9
  obtain ⟨su70, h9⟩ := h9
  obtain ⟨su71, h9⟩ := h9
  obtain ⟨su72, h9⟩ := h9
  obtain ⟨su73, h9⟩ := h9
  obtain ⟨su74, h9⟩ := h9
  obtain ⟨su75, h9⟩ := h9
  obtain ⟨su76, h9⟩ := h9
  obtain ⟨su77, h9⟩ := h9
  obtain ⟨su78, h9⟩ := h9
  obtain ⟨su79, h9⟩ := h9
  obtain ⟨su80, h9⟩ := h9
  obtain ⟨su81, h9⟩ := h9
  obtain ⟨su82, h9⟩ := h9
  obtain ⟨su83, h9⟩ := h9
  obtain ⟨su84, h9⟩ := h9
  obtain ⟨su85, h9⟩ := h9
  obtain ⟨su86, h9⟩ := h9
  obtain ⟨su87, h9⟩ := h9
  obtain ⟨su88, h9⟩ := h9
  obtain ⟨su89, h9⟩ := h9
  obtain ⟨su90, h9⟩ := h9
  obtain ⟨su91, h9⟩ := h9
  obtain ⟨su92, h9⟩ := h9
  obtain ⟨su93, h9⟩ := h9
  obtain ⟨su94, h9⟩ := h9
  obtain ⟨su95, h9⟩ := h9
  obtain ⟨su96, h9⟩ := h9
  obtain ⟨su97, h9⟩ := h9
  obtain ⟨su98, h9⟩ := h9
  obtain ⟨su99, h9⟩ := h9
  obtain ⟨su100, h9⟩ := h9
  obtain ⟨su101, h9⟩ := h9
  obtain ⟨su102, h9⟩ := h9
  obtain ⟨su103, h9⟩ := h9
  obtain ⟨su104, h9⟩ := h9
  obtain ⟨su105, h9⟩ := h9
  obtain ⟨su106, h9⟩ := h9
  obtain ⟨su107, h9⟩ := h9
  obtain ⟨su108, h9⟩ := h9
  obtain ⟨su109, h9⟩ := h9
  obtain ⟨su110, h9⟩ := h9
  obtain ⟨su111, h9⟩ := h9
  obtain ⟨su112, h9⟩ := h9
  obtain ⟨su113, h9⟩ := h9
  obtain ⟨su114, h9⟩ := h9
  obtain ⟨su115, h9⟩ := h9
  obtain ⟨su116, h9⟩ := h9
  obtain ⟨su117, h9⟩ := h9
  obtain ⟨su118, h9⟩ := h9
  obtain ⟨su119, h9⟩ := h9
  obtain ⟨su120, h9⟩ := h9
  obtain ⟨su121, h9⟩ := h9
  obtain ⟨su122, h9⟩ := h9
  obtain ⟨su123, h9⟩ := h9
  obtain ⟨su124, h9⟩ := h9
  obtain ⟨su125, h9⟩ := h9
  obtain ⟨su126, h9⟩ := h9
  obtain ⟨su127, h9⟩ := h9
  obtain ⟨su128, h9⟩ := h9
  obtain ⟨su129, h9⟩ := h9
  obtain ⟨su130, h9⟩ := h9
  obtain ⟨su131, h9⟩ := h9
  obtain ⟨su132, h9⟩ := h9
  obtain ⟨su133, h9⟩ := h9
  obtain ⟨su134, h9⟩ := h9
  obtain ⟨su135, h9⟩ := h9
  obtain ⟨su136, h9⟩ := h9
  obtain ⟨su137, h9⟩ := h9
  obtain ⟨su138, h9⟩ := h9
  obtain ⟨su139, h9⟩ := h9
  obtain ⟨su140, h9⟩ := h9
  obtain ⟨su141, h9⟩ := h9
  obtain ⟨su142, h9⟩ := h9
  obtain ⟨su143, h9⟩ := h9
  obtain ⟨su144, h9⟩ := h9
  obtain ⟨su145, h9⟩ := h9
  obtain ⟨su146, h9⟩ := h9
  obtain ⟨su147, h9⟩ := h9
  obtain ⟨su148, h9⟩ := h9
  obtain ⟨su149, h9⟩ := h9
  obtain ⟨su150, h9⟩ := h9
  obtain ⟨su151, h9⟩ := h9
  obtain ⟨su152, h9⟩ := h9
  obtain ⟨su153, h9⟩ := h9
  obtain ⟨su154, h9⟩ := h9
  obtain ⟨su155, h9⟩ := h9
  obtain ⟨su156, h9⟩ := h9
  obtain ⟨su157, h9⟩ := h9
  obtain ⟨su158, h9⟩ := h9
  obtain ⟨su159, h9⟩ := h9
  obtain ⟨su160, h9⟩ := h9
  obtain ⟨su161, h9⟩ := h9
  obtain ⟨su162, h9⟩ := h9
  obtain ⟨su163, h9⟩ := h9
  obtain ⟨su164, h9⟩ := h9
  obtain ⟨su165, h9⟩ := h9
  obtain ⟨su166, h9⟩ := h9
  obtain ⟨su167, h9⟩ := h9
  obtain ⟨su168, h9⟩ := h9
  obtain ⟨su169, h9⟩ := h9
  obtain ⟨su170, h9⟩ := h9
  obtain ⟨su171, h9⟩ := h9
  obtain ⟨su172, h9⟩ := h9
  obtain ⟨su173, h9⟩ := h9
  obtain ⟨su174, h9⟩ := h9
  obtain ⟨su175, h9⟩ := h9
  obtain ⟨su176, h9⟩ := h9
  obtain ⟨su177, h9⟩ := h9
  obtain ⟨su178, h9⟩ := h9
  obtain ⟨su179, h9⟩ := h9
  obtain ⟨su180, h9⟩ := h9
  obtain ⟨su181, h9⟩ := h9
  obtain ⟨su182, h9⟩ := h9
  obtain ⟨su183, h9⟩ := h9
  obtain ⟨su184, h9⟩ := h9
  obtain ⟨su185, h9⟩ := h9
  obtain ⟨su186, h9⟩ := h9
  obtain ⟨su187, h9⟩ := h9
  obtain ⟨su188, h9⟩ := h9
  obtain ⟨su189, h9⟩ := h9
  obtain ⟨su190, h9⟩ := h9
  obtain ⟨su191, h9⟩ := h9
  obtain ⟨su192, h9⟩ := h9
  obtain ⟨su193, h9⟩ := h9
  obtain ⟨su194, h9⟩ := h9
  obtain ⟨su195, h9⟩ := h9
  obtain ⟨su196, h9⟩ := h9
  obtain ⟨su197, h9⟩ := h9
  obtain ⟨su198, h9⟩ := h9
  obtain ⟨su199, h9⟩ := h9
  obtain ⟨⟨k, ak, rd, pl, wo, X', v, s, es, ds, rfl, rfl, rfl, rfl, rfl, hdf, hk, HQ⟩, rfl⟩ := h9
  subst hdf
  have HQ1 := Lib.hid HQ.out.1
  clear HQ HL hk
  go_wp2_with fail
  refine (awake09 _).mono ?_
  rintro e w4 ⟨rfl, hb⟩
  have HQ4 := Lib.hid (HQ1.out.ext hb)
  have r0 := cell_of HQ4.out.re
  have rf := free_of HQ4.out.re
  have rl := lt_of HQ4.out.re
  clear hb
  go_wp2_with fail
  have hs6 := set_of (u := .bool true) HQ4.out.re
  have hb6 : Below w.heap.size w (w4.setCell ⟨w.heap.size + 1, 0, none⟩ (.bool true)) := HQ4.out.lr.below.setCell (p := ⟨w.heap.size + 1, 0, none⟩) (by simp) _
  refine leaves_all (fun V => Below w.heap.size w V ∧ V.heap[w.heap.size + 1]? = some (.cells #[.bool true] 4 (0, 0))) ds ?_ ?_ ds _ HQ4.out.nd (fun D h => h) ?_ ⟨hb6, hs6⟩
  · rintro V D hD hV ⟨hb, hc⟩
    refine ⟨hb.trans (belowK_b (w := w) (Nat.le_refl _) V D _ _ (HQ4.out.ds D hD).1 hV rfl rfl), ?_⟩
    rw [World.putObj_heap_other (fun e => by rw [e, hV] at hc; cases hc)]
    exact hc
  · rintro V ⟨hb, hc⟩
    have kc := cell_of hc
    refine ⟨.bool true, ?_, rfl, hb⟩
    simp [results, Try.f6, go_sem, kc]
  · intro D hD
    refine (Below.heap_setCell _ _ _ _ (fun e => ?_)).trans (HQ4.out.ds D hD).2.2.1
    have := (HQ4.out.ds D hD).2.2.1
    rw [e, HQ4.out.re] at this
    cases this

theorem fresh_walk (n m : Int) (A : Option Addr) (l : List Tu) (cap : Nat) (w : World) (h : SlU w A l) :
    Calls Try.prog 6 #[.agg #[.int .i64 n, .int .i64 m], .slice A l.length cap] w fun e w' => e = .returned (.bool true) ∧ Below w.heap.size w w' := by
  by_cases hd : may9B n m = false ∨ 80 < l.length
  · exact fresh_out n m A l.length cap w hd
  · have hm : may9B n m = true := by cases hm : may9B n m <;> simp_all
    have hbd : 1 ≤ n ∧ n ≤ 8 ∧ 1 ≤ m ∧ m ≤ 16 := by simpa [may9B, and_assoc] using hm
    obtain ⟨k, rfl⟩ := Int.eq_ofNat_of_zero_le (show 0 ≤ m by omega)
    exact fresh_in n k A l cap w h hm (by omega)

end Go.Proofs.Ytjggnhcdnfmmeaa
