/- What this text holds: the small functions of the table: who may own, a granule's place, a new table, Get and Set. No condition. -/
import Derived.Test.YtjggnhcdnfmmeaaOwn2
import Derived.Laws.StructEq
namespace Go.Proofs.Ytjggnhcdnfmmeaa
open Go.RowKit

/-- An entry: who has it, whether it is locked. -/
abbrev En := Int × Bool
def ownB (o : Int) : Bool := decide (0 ≤ o) && decide (o ≤ 4)
/-- The entry at a place. -/
def atE (es : List En) (i : Nat) : En := es[i]?.getD (0, false)

theorem info_entry : (Try.prog.info? 55).map (fun i => (i.zero, i.size, i.bytes)) = some (some (.agg #[.int .i64 0, .bool false]), 2, 16) := by kernel_rfl

/-- A table lies in memory: its one cell, and its entries' cells. -/
structure Tb (w : World) (p g : Nat) (es : List En) : Prop where
  ne : p ≠ g
  pl : p < w.heap.size
  gl : g < w.heap.size
  pc : ∃ c, es.length ≤ c ∧ w.cell? ⟨p, 0, none⟩ = some (.slice (some ⟨g, 0, none⟩) es.length c)
  go : ∀ i, i < es.length → w.cell? ⟨g, i * 2, none⟩ = some (.int .i64 (atE es i).1)
  gb : ∀ i, i < es.length → w.cell? ⟨g, i * 2 + 1, none⟩ = some (.bool (atE es i).2)
  gf : ∀ i, w.frozen? ⟨g, i, none⟩ = false

theorem Tb.of_blocks {w w' : World} {p g : Nat} {es : List En} (h : Tb w p g es) (hs : w.heap.size ≤ w'.heap.size) (hp : w'.heap[p]? = w.heap[p]?) (hg : w'.heap[g]? = w.heap[g]?) : Tb w' p g es :=
  ⟨h.ne, Nat.lt_of_lt_of_le h.pl hs, Nat.lt_of_lt_of_le h.gl hs, h.pc.imp fun _ hc => ⟨hc.1, (World.cell?_of_block (a := ⟨p, 0, none⟩) hp).trans hc.2⟩, fun i hi => (World.cell?_of_block (a := ⟨g, i * 2, none⟩) hg).trans (h.go i hi),
    fun i hi => (World.cell?_of_block (a := ⟨g, i * 2 + 1, none⟩) hg).trans (h.gb i hi), fun i => (World.frozen?_of_block (a := ⟨g, i, none⟩) hg).trans (h.gf i)⟩
theorem Tb.ext {w w' : World} {p g : Nat} {es : List En} (hb : Below w.heap.size w w') (h : Tb w p g es) : Tb w' p g es := h.of_blocks hb.size (hb.block p h.pl) (hb.block g h.gl)

/-- The world behind a store of an entry. -/
def setE (w : World) (g i : Nat) (x : En) : World := (w.setCell ⟨g, i * 2, none⟩ (.int .i64 x.1)).setCell ⟨g, i * 2 + 1, none⟩ (.bool x.2)

theorem setE_size (w : World) (g i : Nat) (x : En) : (setE w g i x).heap.size = w.heap.size := by simp [setE]
theorem setE_block (w : World) (g i : Nat) (x : En) (k : Nat) (h : k ≠ g) : (setE w g i x).heap[k]? = w.heap[k]? := by
  unfold setE
  rw [Below.heap_setCell _ _ _ _ h, Below.heap_setCell _ _ _ _ h]
theorem Tb.set {w : World} {p g : Nat} {es : List En} (h : Tb w p g es) (i : Nat) (hi : i < es.length) (x : En) : Tb (setE w g i x) p g (es.set i x) := by
  have c0 := h.go i hi
  have c1 := h.gb i hi
  have oth : ∀ k, k ≠ g → (setE w g i x).heap[k]? = w.heap[k]? := setE_block w g i x
  refine ⟨h.ne, by rw [setE_size]; exact h.pl, by rw [setE_size]; exact h.gl, ?_, fun j hj => ?_, fun j hj => ?_, fun j => ?_⟩
  · rw [List.length_set]
    exact h.pc.imp fun _ hc => ⟨hc.1, (World.cell?_of_block (a := ⟨p, 0, none⟩) (oth p h.ne)).trans hc.2⟩
  · have hj' : j < es.length := by simpa using hj
    unfold setE
    rw [World.cell?_setCell_other _ _ _ _ (fun e => by have := congrArg Addr.off e; simp at this; omega)]
    by_cases hij : i = j
    · subst hij
      rw [World.cell?_setCell_same _ _ _ c0]
      simp [atE, hi]
    · rw [World.cell?_setCell_other _ _ _ _ (fun e => by have := congrArg Addr.off e; simp at this; omega), h.go j hj']
      simp [atE, List.getElem?_set_ne hij]
  · have hj' : j < es.length := by simpa using hj
    have c1' : (w.setCell ⟨g, i * 2, none⟩ (.int .i64 x.1)).cell? ⟨g, i * 2 + 1, none⟩ = some (.bool (atE es i).2) := by
      rw [World.cell?_setCell_other _ _ _ _ (fun e => by have := congrArg Addr.off e; simp at this), c1]
    unfold setE
    by_cases hij : i = j
    · subst hij
      rw [World.cell?_setCell_same _ _ _ c1']
      simp [atE, hi]
    · rw [World.cell?_setCell_other _ _ _ _ (fun e => by have := congrArg Addr.off e; simp at this; omega), World.cell?_setCell_other _ _ _ _ (fun e => by have := congrArg Addr.off e; simp at this; omega), h.gb j hj']
      simp [atE, List.getElem?_set_ne hij]
  · simpa [setE] using h.gf j
theorem setE_below {W w : World} {g i : Nat} {x : En} (hb : Below W.heap.size W w) (hg : W.heap.size ≤ g) : Below W.heap.size W (setE w g i x) :=
  (hb.setCell (p := ⟨g, i * 2, none⟩) hg _).setCell (p := ⟨g, i * 2 + 1, none⟩) hg _

theorem owns_any (o : Int) (w : World) : Calls Try.prog 48 #[.int .i64 o] w fun e w' => e = .returned (.bool (ownB o)) ∧ w' = w := by
  by_cases h0 : 0 ≤ o
  · by_cases h4 : o ≤ 4
    · go_enter Try.func48, Try.ntmps48
      go_wp2
      go_ret
      exact ⟨ret_bool (by simp [ownB, h0, h4]), rfl⟩
    · go_enter Try.func48, Try.ntmps48
      go_wp2
      go_ret
      exact ⟨ret_bool (by simp [ownB, h4]), rfl⟩
  · go_enter Try.func48, Try.ntmps48
    go_wp2
    go_ret
    exact ⟨ret_bool (by simp [ownB]; omega), rfl⟩

theorem place_any (n g : Int) (w : World) (h0 : 0 ≤ n) (h1 : n ≤ 16) (h2 : 0 ≤ g) (h3 : g ≤ 16) : Calls Try.prog 56 #[.int .i64 n, .int .i64 g] w fun e w' => e = .returned (.int .i64 ((n + 3) / 4 + g)) ∧ w' = w := by
  go_enter Try.func56, Try.ntmps56
  go_wp2
  go_ret
  exact ⟨ret_int (by omega), rfl⟩

theorem get_yes (p g : Nat) (es : List En) (i : Int) (w : World) (h : Tb w p g es) (h0 : 0 ≤ i) (h1 : i < es.length) :
    Calls Try.prog 25 #[.pointer (some ⟨p, 0, none⟩), .int .i64 i] w fun e w' => e = .returned (.tuple #[.agg #[.int .i64 (atE es i.toNat).1, .bool (atE es i.toNat).2], .int .i64 0]) ∧ Below w.heap.size w w' := by
  obtain ⟨k, rfl⟩ := Int.eq_ofNat_of_zero_le h0
  have hk : k < es.length := by omega
  obtain ⟨c, hcl, hc⟩ := h.pc
  have hg0 := h.go k hk
  have hg1 := h.gb k hk
  have hpl := h.pl
  have hgl := h.gl
  have e0 : decide ((k : Int) < 0) = false := by simp
  have e1 : decide ((k : Int) ≥ (es.length : Int)) = false := by simp; omega
  go_enter Try.func25, Try.ntmps25
  go_wp2
  (try simp only [Exit.inBlock, Exit.then]); refine bodyPost_ret (by simp [results, Try.results25, go_sem]; try rfl) rfl ?_
  exact ⟨rfl, (by repeat (with_reducible first | exact Below.refl _ _ | assumption | (refine ext_next (by assumption) ?_) | apply ext_alloc | apply ext_past | apply ext_drew | apply ext_drewN))⟩

theorem get_no (p g : Nat) (es : List En) (i : Int) (w : World) (h : Tb w p g es) (h0 : i < 0 ∨ es.length ≤ i) :
    Calls Try.prog 25 #[.pointer (some ⟨p, 0, none⟩), .int .i64 i] w fun e w' => e = .returned (.tuple #[.agg #[.int .i64 0, .bool false], .int .i64 10]) ∧ Below w.heap.size w w' := by
  obtain ⟨c, hcl, hc⟩ := h.pc
  have hpl := h.pl
  have hgl := h.gl
  by_cases hn : i < 0
  · go_enter Try.func25, Try.ntmps25
    go_wp2
    (try simp only [Exit.inBlock, Exit.then]); refine bodyPost_ret (by simp [results, Try.results25, go_sem]; try rfl) rfl ?_
    exact ⟨rfl, (by repeat (with_reducible first | exact Below.refl _ _ | assumption | (refine ext_next (by assumption) ?_) | apply ext_alloc | apply ext_past | apply ext_drew | apply ext_drewN))⟩
  · have h1 : (es.length : Int) ≤ i := by omega
    clear h0
    go_enter Try.func25, Try.ntmps25
    go_wp2
    (try simp only [Exit.inBlock, Exit.then]); refine bodyPost_ret (by simp [results, Try.results25, go_sem]; try rfl) rfl ?_
    exact ⟨rfl, (by repeat (with_reducible first | exact Below.refl _ _ | assumption | (refine ext_next (by assumption) ?_) | apply ext_alloc | apply ext_past | apply ext_drew | apply ext_drewN))⟩

theorem get_nil (i : Int) (w : World) : Calls Try.prog 25 #[.pointer none, .int .i64 i] w fun e w' => e = .returned (.tuple #[.agg #[.int .i64 0, .bool false], .int .i64 2]) ∧ Below w.heap.size w w' := by
  go_enter Try.func25, Try.ntmps25
  go_wp2
  (try simp only [Exit.inBlock, Exit.then]); refine bodyPost_ret (by simp [results, Try.results25, go_sem]; try rfl) rfl ?_
  exact ⟨rfl, (by repeat (with_reducible first | exact Below.refl _ _ | assumption | (refine ext_next (by assumption) ?_) | apply ext_alloc | apply ext_past | apply ext_drew | apply ext_drewN))⟩

theorem set_nil (i o : Int) (l : Bool) (w : World) : Calls Try.prog 24 #[.pointer none, .int .i64 i, .agg #[.int .i64 o, .bool l]] w fun e w' => e = .returned (.int .i64 2) ∧ Below w.heap.size w w' := by
  go_enter Try.func24, Try.ntmps24
  go_wp2
  go_ret
  exact ⟨rfl, (by repeat (with_reducible first | exact Below.refl _ _ | assumption | (refine ext_next (by assumption) ?_) | apply ext_alloc | apply ext_past | apply ext_drew | apply ext_drewN))⟩

theorem Tb.grown {w w' : World} {p g : Nat} {es : List En} {row : Option Nat} (h : Tb w p g es) (hg : w.grownBy w' row) (h1 : some p ≠ row) (h2 : some g ≠ row) : Tb w' p g es :=
  h.of_blocks hg.size (hg.block p h.pl h1) (hg.block g h.gl h2)
theorem setE_grown (w : World) (g i : Nat) (x : En) : w.grownBy (setE w g i x) (some g) :=
  ⟨rfl, rfl, rfl, by rw [setE_size]; exact Nat.le_refl _, fun k _ hne => setE_block w g i x k (fun e => hne (by rw [e]))⟩
theorem grown_below {W w w' : World} {g : Nat} (hb : Below W.heap.size W w) (hg : w.grownBy w' (some g)) (hW : W.heap.size ≤ g) : Below W.heap.size W w' :=
  hb.grown hg hb.size (fun j hj => by cases hj; exact hW)

set_option maxRecDepth 100000 in
theorem set_yes (p g : Nat) (es : List En) (i o : Int) (l : Bool) (w : World) (h : Tb w p g es) (h0 : 0 ≤ i) (h1 : i < es.length) (h2 : ownB o = true) :
    Calls Try.prog 24 #[.pointer (some ⟨p, 0, none⟩), .int .i64 i, .agg #[.int .i64 o, .bool l]] w fun e w' => e = .returned (.int .i64 0) ∧ w.grownBy w' (some g) ∧ Tb w' p g (es.set i.toNat (o, l)) := by
  obtain ⟨k, rfl⟩ := Int.eq_ofNat_of_zero_le h0
  have hk : k < es.length := by omega
  obtain ⟨c, hcl, hc⟩ := h.pc
  have hg0 := h.go k hk
  have hg1 := h.gb k hk
  have hf := h.gf
  have hpl := h.pl
  have hgl := h.gl
  have e0 : decide ((k : Int) < 0) = false := by simp
  have e1 : decide ((k : Int) ≥ (es.length : Int)) = false := by simp; omega
  have H2 := Lib.hid h2
  clear h2
  go_enter Try.func24, Try.ntmps24
  go_wp2_with fail
  refine (owns_any _ _).mono ?_
  rintro e w' ⟨rfl, rfl⟩
  rw [H2.out]
  go_wp2
  go_region
  go_wp2
  go_ret
  refine ⟨rfl, ⟨rfl, rfl, rfl, by simp, fun j hj hne => (heap_alloc_old (setE w g k (o, l)) _ (by rw [setE_size]; exact hj)).trans (setE_block w g k (o, l) j (fun e => hne (by rw [e])))⟩, ?_⟩
  exact Tb.ext (Below.drew (Below.alloc (Below.refl _ (setE w g k (o, l))) (Nat.le_refl _) _)) (h.set k hk (o, l))

set_option maxRecDepth 100000 in
theorem set_no (p g : Nat) (es : List En) (i o : Int) (l : Bool) (w : World) (h : Tb w p g es) (h0 : ¬ (0 ≤ i ∧ i < es.length ∧ ownB o = true)) :
    Calls Try.prog 24 #[.pointer (some ⟨p, 0, none⟩), .int .i64 i, .agg #[.int .i64 o, .bool l]] w fun e w' => e = .returned (.int .i64 10) ∧ Below w.heap.size w w' := by
  obtain ⟨c, hcl, hc⟩ := h.pc
  have hpl := h.pl
  have hgl := h.gl
  by_cases hn : i < 0
  · go_enter Try.func24, Try.ntmps24
    go_wp2
    go_ret
    exact ⟨rfl, (by repeat (with_reducible first | exact Below.refl _ _ | assumption | (refine ext_next (by assumption) ?_) | apply ext_alloc | apply ext_past | apply ext_drew | apply ext_drewN))⟩
  · by_cases h1 : (es.length : Int) ≤ i
    · clear h0
      go_enter Try.func24, Try.ntmps24
      go_wp2
      go_ret
      exact ⟨rfl, (by repeat (with_reducible first | exact Below.refl _ _ | assumption | (refine ext_next (by assumption) ?_) | apply ext_alloc | apply ext_past | apply ext_drew | apply ext_drewN))⟩
    · have h2 : ownB o = false := by
        cases hb : ownB o
        · rfl
        · exact absurd ⟨by omega, by omega, hb⟩ h0
      have H2 := Lib.hid h2
      clear h0 h2
      have e0 : decide (i < 0) = false := by simp; omega
      have e1 : decide (i ≥ (es.length : Int)) = false := by simp; omega
      go_enter Try.func24, Try.ntmps24
      go_wp2_with fail
      refine (owns_any _ _).mono ?_
      rintro e w' ⟨rfl, rfl⟩
      rw [H2.out]
      go_wp2
      go_ret
      exact ⟨rfl, (by repeat (with_reducible first | exact Below.refl _ _ | assumption | (refine ext_next (by assumption) ?_) | apply ext_alloc | apply ext_past | apply ext_drew | apply ext_drewN))⟩

theorem made_get {a b : Value} {n i : Nat} (h : i < n) : (madeCells #[a, b] (n * 2))[i * 2]? = some a ∧ (madeCells #[a, b] (n * 2))[i * 2 + 1]? = some b := by
  constructor
  · rw [Array.getElem?_eq_getElem (by simp [size_madeCells]; omega)]
    simp [madeCells]
  · rw [Array.getElem?_eq_getElem (by simp [size_madeCells]; omega)]
    simp [madeCells, Nat.add_mod]

set_option maxRecDepth 100000 in
theorem new_ok (n : Nat) (w : World) (h1 : 1 ≤ n) (h2 : n ≤ 16) : Calls Try.prog 23 #[.int .i64 n] w fun e w' =>
    e = .returned (.tuple #[.pointer (some ⟨w.heap.size + 1, 0, none⟩), .int .i64 0]) ∧ Tb w' (w.heap.size + 1) w.heap.size (List.replicate n (0, false)) ∧ Below w.heap.size w w' ∧ w'.heap.size = w.heap.size + 2 := by
  obtain ⟨i0, hi, hz0, hz1, hz2⟩ := info_parts info_entry
  have hmk := fun wx => run_make (P := Try.prog) wx 49 55 i0 _ Try.underlying49 hi hz0 .i64 .i64 n n (by omega) (Int.le_refl _) (by rw [hz2]; omega) (by omega)
  rw [hz1] at hmk
  simp only [Int.toNat_natCast, Value.cells] at hmk
  have e0 : decide ((n : Int) < 1) = false := by simp; omega
  have e1 : decide ((n : Int) > 16) = false := by simp; omega
  generalize hM : madeCells #[Value.int .i64 0, Value.bool false] (n * 2) = M at hmk
  have HM := Lib.hid hM
  clear hM
  go_enter Try.func23, Try.ntmps23
  go_wp2
  go_ret2
  have b0 : ((w.alloc (.cells M 55)).alloc (.cells #[.slice (some ⟨w.heap.size, 0, none⟩) n n] 107)).heap[w.heap.size]? = some (.cells M 55 (0, 0)) :=
    (heap_alloc_old _ _ (by simp)).trans (heap_alloc_new w _)
  have b1 : ((w.alloc (.cells M 55)).alloc (.cells #[.slice (some ⟨w.heap.size, 0, none⟩) n n] 107)).heap[w.heap.size + 1]? = some (.cells #[.slice (some ⟨w.heap.size, 0, none⟩) n n] 107 (0, 0)) := by
    have := heap_alloc_new (w.alloc (.cells M 55)) (.cells #[.slice (some ⟨w.heap.size, 0, none⟩) n n] 107)
    simpa using this
  refine ⟨rfl, ⟨by omega, by simp, by simp; omega, ?_, fun i hi => ?_, fun i hi => ?_, fun i => ?_⟩, (by repeat (with_reducible first | exact Below.refl _ _ | assumption | (refine ext_next (by assumption) ?_) | apply ext_alloc | apply ext_past | apply ext_drew | apply ext_drewN)), by simp⟩
  · rw [List.length_replicate]
    refine ⟨n, Nat.le_refl _, ?_⟩
    unfold World.cell?
    rw [b1]
    rfl
  · have hin : i < n := by simpa using hi
    have := (made_get (a := .int .i64 0) (b := .bool false) hin).1
    rw [HM.out] at this
    unfold World.cell?
    rw [b0]
    simp [atE, hin, this]
  · have hin : i < n := by simpa using hi
    have := (made_get (a := .int .i64 0) (b := .bool false) hin).2
    rw [HM.out] at this
    unfold World.cell?
    rw [b0]
    simp [atE, hin, this]
  · unfold World.frozen?
    rw [b0]
    simp

theorem new_no (n : Int) (w : World) (h : n < 1 ∨ 16 < n) : Calls Try.prog 23 #[.int .i64 n] w fun e w' => e = .returned (.tuple #[.pointer none, .int .i64 10]) ∧ Below w.heap.size w w' := by
  by_cases h1 : n < 1
  · go_enter Try.func23, Try.ntmps23
    go_wp2
    go_ret2
    exact ⟨rfl, (by repeat (with_reducible first | exact Below.refl _ _ | assumption | (refine ext_next (by assumption) ?_) | apply ext_alloc | apply ext_past | apply ext_drew | apply ext_drewN))⟩
  · have h2 : 16 < n := by omega
    clear h
    go_enter Try.func23, Try.ntmps23
    go_wp2
    go_ret2
    exact ⟨rfl, (by repeat (with_reducible first | exact Below.refl _ _ | assumption | (refine ext_next (by assumption) ?_) | apply ext_alloc | apply ext_past | apply ext_drew | apply ext_drewN))⟩

end Go.Proofs.Ytjggnhcdnfmmeaa
