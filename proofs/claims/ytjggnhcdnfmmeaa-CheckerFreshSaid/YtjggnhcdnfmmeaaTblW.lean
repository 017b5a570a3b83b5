/- What this text holds: all words of a table, as a list. No condition. -/
import Derived.Test.YtjggnhcdnfmmeaaTbl
namespace Go.Proofs.Ytjggnhcdnfmmeaa
open Go.RowKit

/-- How many groups there are. -/
def ngr (n : Nat) : Nat := (n + 3) / 4
/-- Has a group one owner, and is none locked? -/
def grpOk (es : List En) (i : Nat) : Bool := ((es.drop (4 * i)).take 4).all fun x => x == ((atE es (4 * i)).1, false)
def grpW (es : List En) (i : Nat) : Int := if grpOk es i then 4 * (atE es (4 * i)).1 else 4 * ((ngr es.length + 4 * i : Nat) : Int) + 1
def entW (x : En) : Int := if x.2 then x.1 + 8 else x.1
def wordsOf (es : List En) : List Int := (List.range (ngr es.length)).map (grpW es) ++ es.map entW
/-- All owners are owners. -/
def Good (es : List En) : Prop := ∀ i, i < es.length → 0 ≤ (atE es i).1 ∧ (atE es i).1 ≤ 4

/-- The variable that gathers words. -/
structure Wd (w : World) (b : Nat) (xs : List Int) : Prop where
  lt : b < w.heap.size
  val : ∃ v, w.cell? ⟨b, 0, none⟩ = some v ∧ w.ownsRow (b + 1) 3 1 v xs.length (xs.map (Value.int .i64))
  free : w.frozen? ⟨b, 0, none⟩ = false

theorem Wd.ext {w w' : World} {b : Nat} {xs : List Int} (h : Wd w b xs) (hb : Below w.heap.size w w') : Wd w' b xs := by
  obtain ⟨h1, ⟨v, h2, h3⟩, h4⟩ := h
  refine ⟨Nat.lt_of_lt_of_le h1 hb.size, ⟨v, (hb.cell (p := ⟨b, 0, none⟩) h1).trans h2, ?_⟩, (hb.frozen (p := ⟨b, 0, none⟩) h1).trans h4⟩
  exact h3.kept (row := none) ⟨hb.os, hb.tape, hb.output, hb.size, fun k hk _ => hb.block k hk⟩ (by cases hv : v.ownBlock <;> simp)

set_option maxRecDepth 100000 in
theorem put_any (b : Nat) (xs : List Int) (x : Int) (w : World) (h : Wd w b xs) (hl : xs.length < 1000) :
    Calls Try.prog 58 #[.int .i64 x, .pointer (some ⟨b, 0, none⟩)] w fun e w' => e = .returned (.tuple #[]) ∧ Wd w' b (xs ++ [x]) ∧ Below b w w' := by
  obtain ⟨i0, hi, hz, hz1, hz2⟩ := info_parts info_int
  obtain ⟨h1, ⟨v, h2, h3⟩, h4⟩ := h
  have H3 := Lib.hid h3
  clear h3
  go_enter Try.func58, Try.ntmps58
  go_wp2_with (at_builtin; refine wpList_append_own _ rfl _ _ 64 rfl (b + 1) 3 i0 (.int .i64 0) 1 8 Try.underlying64 hi hz hz1 hz2 rfl (by decide) _ _ _ rfl (H3.out.alloc _) ⟨w.heap.size, 0, none⟩ 1 1 [.int .i64 x] rfl rfl ?c1 ?c2 ?c3 ?c4 ?c5 ?_)
  case c1 => exact one_at _ _ _
  case c2 => exact one_one _
  case c3 => unfold maxLen; omega
  case c4 => omega
  case c5 => simp; omega
  intro v' w1 hown' hgrow _
  have hown2 : w1.ownsRow (b + 1) 3 1 v' (xs ++ [x]).length ((xs ++ [x]).map (Value.int .i64)) := by simpa using hown'
  obtain ⟨_, hv'⟩ := own_i hown2
  have hb1 : Below b w w1 := by
    have hb0 : Below b (w.alloc (.cells #[.int .i64 x] 3)) w1 := (Below.refl b _).grown hgrow (by simp; omega) (fun k hk => by
      rcases H3.out.2 with ⟨rfl, _⟩ | ⟨g, cap, cur, rfl, hbg, _⟩
      · simp [Value.ownBlock] at hk
      · simp [Value.ownBlock] at hk
        omega)
    exact ((Below.refl b w).alloc (by omega) _).trans hb0
  have hk1 : w1.heap[b]? = w.heap[b]? := by
    rw [hgrow.block b (by simp; omega) (fun e => by
      rcases H3.out.2 with ⟨rfl, _⟩ | ⟨g, cap, cur, rfl, hbg, _⟩
      · simp [Value.ownBlock] at e
      · simp [Value.ownBlock] at e
        omega)]
    exact heap_alloc_old _ _ h1
  have hc1 : w1.cell? ⟨b, 0, none⟩ = some v := (World.cell?_of_block (a := ⟨b, 0, none⟩) hk1).trans h2
  have hf1 : w1.frozen? ⟨b, 0, none⟩ = false := (World.frozen?_of_block (a := ⟨b, 0, none⟩) hk1).trans h4
  have hs1 : b < w1.heap.size := by have := hgrow.size; simp at this; omega
  rcases hv' with ⟨_, h0⟩ | ⟨g, cap, rfl, ho⟩
  · simp at h0
  have HO := Lib.hid hown2
  have HW := Lib.hid ho
  have HB := Lib.hid hb1
  clear hown' hown2 ho hgrow hk1 hb1
  generalize hm : (xs ++ [x]).length = m at HO ⊢
  go_wp2
  go_end0
  have hbg := HW.out.base
  refine ⟨rfl, ⟨by simpa using hs1, ⟨_, World.cell?_setCell_same _ _ _ hc1, ?_⟩, by simpa using hf1⟩, HB.out.setCell (p := ⟨b, 0, none⟩) (Nat.le_refl _) _⟩
  rw [hm]
  rcases HO.out.2 with ⟨hv, _⟩ | ⟨g', cap', cur, hv, hb, hg, rest⟩
  · cases hv
  · cases hv
    refine ⟨HO.out.1, .inr ⟨g, cap, cur, rfl, hb, ?_, rest⟩⟩
    rw [Below.heap_setCell _ _ _ _ (by simp; omega)]
    exact hg

theorem atE_get {es : List En} {i : Nat} (h : i < es.length) : es[i] = atE es i := by simp [atE, h]
theorem grp_no {es : List En} {k f j : Nat} (hf : f = 4 * k) (hj : j < 4) (hl : f + j < es.length) (h : ((atE es (f + j)) == ((atE es f).1, false)) = false) : grpW es k = 4 * (((es.length : Int) + 3) / 4 + f) + 1 := by
  subst hf
  have : grpOk es k = false := by
    unfold grpOk
    rw [List.all_eq_false]
    refine ⟨atE es (4 * k + j), ?_, by simpa using h⟩
    rw [← atE_get hl]
    exact List.mem_iff_getElem.2 ⟨j, by simp; omega, by simp⟩
  unfold grpW ngr
  rw [this]
  simp
theorem grp_yes {es : List En} {k f m : Nat} (hf : f = 4 * k) (hm : m = 4 ∨ (m = es.length - f ∧ m ≤ 4)) (h : ((es.drop f).take m).all (fun x => x == ((atE es f).1, false)) = true) : grpW es k = 4 * (atE es f).1 := by
  subst hf
  have : grpOk es k = true := by
    unfold grpOk
    rcases hm with rfl | ⟨rfl, h4⟩
    · exact h
    · rw [List.take_of_length_le (by simp; omega)]
      rw [List.take_of_length_le (by simp)] at h
      exact h
  unfold grpW
  rw [this]
  simp
theorem all_next {es : List En} {f j : Nat} {q : En} (h : ((es.drop f).take j).all (fun x => x == q) = true) (hl : f + j < es.length) (hx : (atE es (f + j) == q) = true) : ((es.drop f).take (j + 1)).all (fun x => x == q) = true := by
  rw [List.take_succ_eq_append_getElem (by simp; omega), List.all_append, h]
  simp only [List.getElem_drop, List.all_cons, List.all_nil, Bool.and_true, Bool.true_and]
  rw [atE_get hl]
  exact hx
theorem range_next (f : Nat → Int) (k : Nat) : (List.range (k + 1)).map f = (List.range k).map f ++ [f k] := by rw [List.range_succ, List.map_append]; rfl

theorem own_sl2 {w : World} {base e : Nat} {v : Value} {n : Nat} {xs : List Int} (h : w.ownsRow base e 1 v n (xs.map (Value.int .i64))) :
    ∃ A cap, v = .slice A xs.length cap ∧ SlI w A xs ∧ ∀ a, A = some a → base ≤ a.block := by
  rcases (own_i h).2 with ⟨rfl, rfl⟩ | ⟨g, cap, rfl, ho⟩
  · exact ⟨none, 0, rfl, fun h => absurd h (by simp), fun a ha => by cases ha⟩
  · exact ⟨_, cap, rfl, ho.sl, fun a ha => by cases ha; exact ho.base⟩

theorem words_nil (w : World) : Calls Try.prog 49 #[.pointer none] w fun e w' => e = .returned (.slice none 0 0) ∧ Below w.heap.size w w' := by
  go_enter Try.func49, Try.ntmps49
  go_wp2
  go_step3
  go_wp2
  rw [Exit.noGoto_ret]
  go_ret
  exact ⟨rfl, (by repeat (with_reducible first | exact Below.refl _ _ | assumption | (refine ext_next (by assumption) ?_) | apply ext_alloc | apply ext_past | apply ext_drew | apply ext_drewN))⟩

set_option maxRecDepth 100000 in
set_option maxHeartbeats 8000000 in
theorem words_any (p g : Nat) (es : List En) (w : World) (h : Tb w p g es) (hn : es.length ≤ 16) (hgood : Good es) :
    Calls Try.prog 49 #[.pointer (some ⟨p, 0, none⟩)] w fun e w' => ∃ A cap, e = .returned (.slice A (wordsOf es).length cap) ∧ SlI w' A (wordsOf es) ∧ (∀ a, A = some a → w.heap.size ≤ a.block) ∧ Below w.heap.size w w' := by
  obtain ⟨c, hcl, hc⟩ := h.pc
  have hpl := h.pl
  have hgl := h.gl
  have H := Lib.hid h
  have HG := Lib.hid hgood
  clear h hgood
  go_enter Try.func49, Try.ntmps49
  go_wp2_with fail
  go_step3
  go_wp2_with fail
  go_step3
  go_wp2_with fail
  go_loopg [6] (ngr es.length) (fun gk s6 wr => ∃ k f : Nat, k + gk = ngr es.length ∧ Hid (f = 4 * k) ∧ f ≤ 16 ∧ s6 = .int .i64 f ∧ Hid (Wd wr w.heap.size ((List.range k).map (grpW es))) ∧ Hid (Below w.heap.size w wr))
  case atStart =>
    exact ⟨0, 0, by omega, rfl, by omega, rfl, ⟨by simp, ⟨.slice none 0 0, by simp [World.cell?_alloc_at], World.ownsRow_nil _ _ _ _⟩, by simp [World.frozen?_alloc_at]⟩, (Below.refl _ _).alloc (Nat.le_refl _) _⟩
  case round =>
    obtain ⟨k, f, hk, hf, hf16, rfl, HW, HB⟩ := hrel
    have hsz := HB.out.size
    have hcr : wr.cell? ⟨p, 0, none⟩ = some (.slice (some ⟨g, 0, none⟩) es.length c) := (HB.out.cell (p := ⟨p, 0, none⟩) hpl).trans hc
    have hplr : p < wr.heap.size := by omega
    have hglr : g < wr.heap.size := by omega
    by_cases hlt : f < es.length
    · have hc0 : wr.cell? ⟨g, f * 2, none⟩ = some (.int .i64 (atE es f).1) := (HB.out.cell (p := ⟨g, f * 2, none⟩) hgl).trans (H.out.go f hlt)
      have e0 : decide ((f : Int) < (es.length : Int)) = true := by simp; omega
      have hfc : f < c := by omega
      have hk4 : f + 4 ≤ 16 := by have := hf.out; omega
      obtain ⟨g1, rfl⟩ : ∃ g1, gk = g1 + 1 := ⟨gk - 1, by have := hf.out; unfold ngr at hk; omega⟩
      by_cases h4 : f + 4 ≤ es.length
      · go_wp2_with fail
        rw [show f + 4 - f = 4 from by omega]
        generalize hw1 : wr.alloc (.cells #[.int .i64 (atE es f).1, .bool false] 55) = w1
        have s1 : w1.heap.size = wr.heap.size + 1 := by rw [← hw1]; simp
        have b1 : Below wr.heap.size wr w1 := by rw [← hw1]; exact (Below.refl _ _).alloc (Nat.le_refl _) _
        have p0 : w1.cell? ⟨wr.heap.size, 0, none⟩ = some (.int .i64 (atE es f).1) := by rw [← hw1]; simp [World.cell?_alloc_at]
        have p1 : w1.cell? ⟨wr.heap.size, 1, none⟩ = some (.bool false) := by rw [← hw1]; simp [World.cell?_alloc_at]
        have B1 := Lib.hid b1
        clear hw1 b1
        go_loopg [45] 4 (fun g2 s45 wy => ∃ j : Nat, j + g2 = 4 ∧ s45 = .int .i64 j ∧ Hid (((es.drop f).take j).all (fun x => x == ((atE es f).1, false)) = true) ∧ Hid (Below w1.heap.size w1 wy))
        case atStart => exact ⟨0, by omega, rfl, by show _ = _; simp, Below.refl _ _⟩
        case round =>
          obtain ⟨j, hj, rfl, HA, HBy⟩ := hrel
          have q0 := (HBy.out.cell (by rw [s1]; exact Nat.lt_succ_self _)).trans p0
          have q1 := (HBy.out.cell (by rw [s1]; exact Nat.lt_succ_self _)).trans p1
          have t1 := HBy.out.size
          have t2 := B1.out.size
          have t3 := Nat.lt_of_lt_of_le (Nat.lt_of_lt_of_eq (Nat.lt_succ_self _) s1.symm) t1
          have hglx : g < wr.heap.size := by omega
          have hplx : p < wr.heap.size := by omega
          by_cases hjm : j < 4
          · have hfj : f + j < es.length := by omega
            have x0 : wr.cell? ⟨g, f * 2 + j * 2, none⟩ = some (.int .i64 (atE es (f + j)).1) := by
              have := H.out.go (f + j) hfj
              rw [Nat.add_mul] at this
              exact (HBy.out.cell (p := ⟨g, f * 2 + j * 2, none⟩) (by simp; omega)).trans ((B1.out.cell (p := ⟨g, f * 2 + j * 2, none⟩) (by simp; omega)).trans ((HB.out.cell (p := ⟨g, f * 2 + j * 2, none⟩) hgl).trans this))
            have x1 : wr.cell? ⟨g, f * 2 + j * 2 + 1, none⟩ = some (.bool (atE es (f + j)).2) := by
              have := H.out.gb (f + j) hfj
              rw [Nat.add_mul] at this
              exact (HBy.out.cell (p := ⟨g, f * 2 + j * 2 + 1, none⟩) (by simp; omega)).trans ((B1.out.cell (p := ⟨g, f * 2 + j * 2 + 1, none⟩) (by simp; omega)).trans ((HB.out.cell (p := ⟨g, f * 2 + j * 2 + 1, none⟩) hgl).trans this))
            have ej : decide ((j : Int) < 4) = true := by simp; omega
            by_cases hq : (atE es (f + j) == ((atE es f).1, false)) = true
            · have hq' : atE es (f + j) = ((atE es f).1, false) := by simpa using hq
              have HQ := Lib.hid hq
              rw [hq'] at x0 x1
              clear hq hq'
              go_wp2_with fail
              go_roundg (4 - (j + 1))
              case measure => omega
              case rel => exact ⟨j + 1, by omega, by go_num, all_next HA.out hfj HQ.out, HBy.out.alloc t1 _⟩
            · have hqf : (atE es (f + j) == ((atE es f).1, false)) = false := by simpa using hq
              have HQ := Lib.hid hqf
              have hk1000 : ((List.range k).map (grpW es)).length < 1000 := by have := hf.out; simp; omega
              have hBs : Below w.heap.size w wr := (HB.out.trans (B1.out.mono hsz)).trans (HBy.out.mono (by omega))
              have hWs := (HW.out.ext (B1.out)).ext HBy.out
              have HBs := Lib.hid hBs
              have HWs := Lib.hid hWs
              have hsw : w.heap.size ≤ wr.heap.size := by omega
              clear hBs hWs
              by_cases ha : ((atE es (f + j)).1 == (atE es f).1) = true
              · have hb : (atE es (f + j)).2 = true := by
                  cases hb : (atE es (f + j)).2
                  · exact absurd (by simp only [beq_iff_eq] at ha ⊢; exact Prod.ext ha hb) hq
                  · rfl
                rw [hb] at x1
                clear hq hqf hb
                go_wp2_with fail
                refine (place_any _ _ _ (by omega) (by omega) (by omega) (by omega)).mono ?_
                rintro e w' ⟨rfl, rfl⟩
                go_wp2_with fail
                refine (put_any w.heap.size _ _ _ (HWs.out.ext ((Below.refl _ _).alloc (Nat.le_refl _) _)) hk1000).mono ?_
                rintro e w3 ⟨rfl, hW3, hB3⟩
                have HW3 := Lib.hid hW3
                have HB3 := Lib.hid hB3
                clear hW3 hB3
                go_wp2_with fail
                go_roundg g1
                case measure => omega
                case rel => exact ⟨k + 1, f + 4, by omega, by show _ = _; have := hf.out; omega, hk4, by go_num, by rw [range_next, grp_no hf.out (by omega) hfj HQ.out]; exact HW3.out, (HBs.out.alloc hsw _).trans HB3.out⟩
              · have ha' : ((atE es (f + j)).1 == (atE es f).1) = false := by simpa using ha
                clear hq hqf ha
                go_wp2_with fail
                refine (place_any _ _ _ (by omega) (by omega) (by omega) (by omega)).mono ?_
                rintro e w' ⟨rfl, rfl⟩
                go_wp2_with fail
                refine (put_any w.heap.size _ _ _ (HWs.out.ext ((Below.refl _ _).alloc (Nat.le_refl _) _)) hk1000).mono ?_
                rintro e w3 ⟨rfl, hW3, hB3⟩
                have HW3 := Lib.hid hW3
                have HB3 := Lib.hid hB3
                clear hW3 hB3
                go_wp2_with fail
                go_roundg g1
                case measure => omega
                case rel => exact ⟨k + 1, f + 4, by omega, by show _ = _; have := hf.out; omega, hk4, by go_num, by rw [range_next, grp_no hf.out (by omega) hfj HQ.out]; exact HW3.out, (HBs.out.alloc hsw _).trans HB3.out⟩
          · obtain ⟨o0, o4⟩ := HG.out f hlt
            have ej : decide ((j : Int) < 4) = false := by simp; omega
            have hjM : j = 4 := by omega
            have hk1000 : ((List.range k).map (grpW es)).length < 1000 := by have := hf.out; simp; omega
            have hBs : Below w.heap.size w wr := (HB.out.trans (B1.out.mono hsz)).trans (HBy.out.mono (by omega))
            have hWs := (HW.out.ext (B1.out)).ext HBy.out
            have HBs := Lib.hid hBs
            have HWs := Lib.hid hWs
            have hsw : w.heap.size ≤ wr.heap.size := by omega
            have HY := Lib.hid (grp_yes hf.out (.inl hjM) HA.out)
            clear hBs hWs hjM
            go_wp2_with fail
            refine (put_any w.heap.size _ _ _ HWs.out hk1000).mono ?_
            rintro e w3 ⟨rfl, hW3, hB3⟩
            have HW3 := Lib.hid hW3
            have HB3 := Lib.hid hB3
            clear hW3 hB3
            go_wp2_with fail
            go_roundg g1
            case measure => omega
            case rel => exact ⟨k + 1, f + 4, by omega, by show _ = _; have := hf.out; omega, hk4, by go_num, by rw [range_next, HY.out]; exact HW3.out, HBs.out.trans HB3.out⟩
      · go_wp2_with fail
        skip
        generalize hw1 : wr.alloc (.cells #[.int .i64 (atE es f).1, .bool false] 55) = w1
        have s1 : w1.heap.size = wr.heap.size + 1 := by rw [← hw1]; simp
        have b1 : Below wr.heap.size wr w1 := by rw [← hw1]; exact (Below.refl _ _).alloc (Nat.le_refl _) _
        have p0 : w1.cell? ⟨wr.heap.size, 0, none⟩ = some (.int .i64 (atE es f).1) := by rw [← hw1]; simp [World.cell?_alloc_at]
        have p1 : w1.cell? ⟨wr.heap.size, 1, none⟩ = some (.bool false) := by rw [← hw1]; simp [World.cell?_alloc_at]
        have B1 := Lib.hid b1
        clear hw1 b1
        go_loopg [45] (es.length - f) (fun g2 s45 wy => ∃ j : Nat, j + g2 = (es.length - f) ∧ s45 = .int .i64 j ∧ Hid (((es.drop f).take j).all (fun x => x == ((atE es f).1, false)) = true) ∧ Hid (Below w1.heap.size w1 wy))
        case atStart => exact ⟨0, by omega, rfl, by show _ = _; simp, Below.refl _ _⟩
        case round =>
          obtain ⟨j, hj, rfl, HA, HBy⟩ := hrel
          have q0 := (HBy.out.cell (by rw [s1]; exact Nat.lt_succ_self _)).trans p0
          have q1 := (HBy.out.cell (by rw [s1]; exact Nat.lt_succ_self _)).trans p1
          have t1 := HBy.out.size
          have t2 := B1.out.size
          have t3 := Nat.lt_of_lt_of_le (Nat.lt_of_lt_of_eq (Nat.lt_succ_self _) s1.symm) t1
          have hglx : g < wr.heap.size := by omega
          have hplx : p < wr.heap.size := by omega
          by_cases hjm : j < es.length - f
          · have hfj : f + j < es.length := by omega
            have x0 : wr.cell? ⟨g, f * 2 + j * 2, none⟩ = some (.int .i64 (atE es (f + j)).1) := by
              have := H.out.go (f + j) hfj
              rw [Nat.add_mul] at this
              exact (HBy.out.cell (p := ⟨g, f * 2 + j * 2, none⟩) (by simp; omega)).trans ((B1.out.cell (p := ⟨g, f * 2 + j * 2, none⟩) (by simp; omega)).trans ((HB.out.cell (p := ⟨g, f * 2 + j * 2, none⟩) hgl).trans this))
            have x1 : wr.cell? ⟨g, f * 2 + j * 2 + 1, none⟩ = some (.bool (atE es (f + j)).2) := by
              have := H.out.gb (f + j) hfj
              rw [Nat.add_mul] at this
              exact (HBy.out.cell (p := ⟨g, f * 2 + j * 2 + 1, none⟩) (by simp; omega)).trans ((B1.out.cell (p := ⟨g, f * 2 + j * 2 + 1, none⟩) (by simp; omega)).trans ((HB.out.cell (p := ⟨g, f * 2 + j * 2 + 1, none⟩) hgl).trans this))
            have ej : decide ((j : Int) < ((es.length - f : Nat) : Int)) = true := by simp; omega
            by_cases hq : (atE es (f + j) == ((atE es f).1, false)) = true
            · have hq' : atE es (f + j) = ((atE es f).1, false) := by simpa using hq
              have HQ := Lib.hid hq
              rw [hq'] at x0 x1
              clear hq hq'
              go_wp2_with fail
              go_roundg ((es.length - f) - (j + 1))
              case measure => omega
              case rel => exact ⟨j + 1, by omega, by go_num, all_next HA.out hfj HQ.out, HBy.out.alloc t1 _⟩
            · have hqf : (atE es (f + j) == ((atE es f).1, false)) = false := by simpa using hq
              have HQ := Lib.hid hqf
              have hk1000 : ((List.range k).map (grpW es)).length < 1000 := by have := hf.out; simp; omega
              have hBs : Below w.heap.size w wr := (HB.out.trans (B1.out.mono hsz)).trans (HBy.out.mono (by omega))
              have hWs := (HW.out.ext (B1.out)).ext HBy.out
              have HBs := Lib.hid hBs
              have HWs := Lib.hid hWs
              have hsw : w.heap.size ≤ wr.heap.size := by omega
              clear hBs hWs
              by_cases ha : ((atE es (f + j)).1 == (atE es f).1) = true
              · have hb : (atE es (f + j)).2 = true := by
                  cases hb : (atE es (f + j)).2
                  · exact absurd (by simp only [beq_iff_eq] at ha ⊢; exact Prod.ext ha hb) hq
                  · rfl
                rw [hb] at x1
                clear hq hqf hb
                go_wp2_with fail
                refine (place_any _ _ _ (by omega) (by omega) (by omega) (by omega)).mono ?_
                rintro e w' ⟨rfl, rfl⟩
                go_wp2_with fail
                refine (put_any w.heap.size _ _ _ (HWs.out.ext ((Below.refl _ _).alloc (Nat.le_refl _) _)) hk1000).mono ?_
                rintro e w3 ⟨rfl, hW3, hB3⟩
                have HW3 := Lib.hid hW3
                have HB3 := Lib.hid hB3
                clear hW3 hB3
                go_wp2_with fail
                go_roundg g1
                case measure => omega
                case rel => exact ⟨k + 1, f + 4, by omega, by show _ = _; have := hf.out; omega, hk4, by go_num, by rw [range_next, grp_no hf.out (by omega) hfj HQ.out]; exact HW3.out, (HBs.out.alloc hsw _).trans HB3.out⟩
              · have ha' : ((atE es (f + j)).1 == (atE es f).1) = false := by simpa using ha
                clear hq hqf ha
                go_wp2_with fail
                refine (place_any _ _ _ (by omega) (by omega) (by omega) (by omega)).mono ?_
                rintro e w' ⟨rfl, rfl⟩
                go_wp2_with fail
                refine (put_any w.heap.size _ _ _ (HWs.out.ext ((Below.refl _ _).alloc (Nat.le_refl _) _)) hk1000).mono ?_
                rintro e w3 ⟨rfl, hW3, hB3⟩
                have HW3 := Lib.hid hW3
                have HB3 := Lib.hid hB3
                clear hW3 hB3
                go_wp2_with fail
                go_roundg g1
                case measure => omega
                case rel => exact ⟨k + 1, f + 4, by omega, by show _ = _; have := hf.out; omega, hk4, by go_num, by rw [range_next, grp_no hf.out (by omega) hfj HQ.out]; exact HW3.out, (HBs.out.alloc hsw _).trans HB3.out⟩
          · obtain ⟨o0, o4⟩ := HG.out f hlt
            have ej : decide ((j : Int) < ((es.length - f : Nat) : Int)) = false := by simp; omega
            have hjM : j = es.length - f := by omega
            have hk1000 : ((List.range k).map (grpW es)).length < 1000 := by have := hf.out; simp; omega
            have hBs : Below w.heap.size w wr := (HB.out.trans (B1.out.mono hsz)).trans (HBy.out.mono (by omega))
            have hWs := (HW.out.ext (B1.out)).ext HBy.out
            have HBs := Lib.hid hBs
            have HWs := Lib.hid hWs
            have hsw : w.heap.size ≤ wr.heap.size := by omega
            have HY := Lib.hid (grp_yes hf.out (.inr ⟨hjM, by omega⟩) HA.out)
            clear hBs hWs hjM
            go_wp2_with fail
            refine (put_any w.heap.size _ _ _ HWs.out hk1000).mono ?_
            rintro e w3 ⟨rfl, hW3, hB3⟩
            have HW3 := Lib.hid hW3
            have HB3 := Lib.hid hB3
            clear hW3 hB3
            go_wp2_with fail
            go_roundg g1
            case measure => omega
            case rel => exact ⟨k + 1, f + 4, by omega, by show _ = _; have := hf.out; omega, hk4, by go_num, by rw [range_next, HY.out]; exact HW3.out, HBs.out.trans HB3.out⟩
    · have hkn : k = ngr es.length := by have := hf.out; unfold ngr at hk ⊢; omega
      have HWk : Hid (Wd wr w.heap.size ((List.range (ngr es.length)).map (grpW es))) := by rw [← hkn]; exact HW
      have hng : ngr es.length ≤ 4 := by unfold ngr; omega
      clear hkn
      go_wp2_with fail
      go_loopg [70] es.length (fun g3 s70 wz => ∃ i : Nat, i + g3 = es.length ∧ s70 = .int .i64 i ∧ Hid (Wd wz w.heap.size ((List.range (ngr es.length)).map (grpW es) ++ (es.take i).map entW)) ∧ Hid (Below w.heap.size w wz))
      case atStart => exact ⟨0, by omega, rfl, by show Wd _ _ _; simpa using HWk.out, HB⟩
      case round =>
        obtain ⟨i, hi, rfl, HWz, HBz⟩ := hrel
        have hszz := HBz.out.size
        have hglz : g < wr.heap.size := by omega
        have hsw : w.heap.size ≤ wr.heap.size := by omega
        by_cases hil : i < es.length
        · have ei : decide ((i : Int) < (es.length : Int)) = true := by simp; omega
          have x0 : wr.cell? ⟨g, i * 2, none⟩ = some (.int .i64 (atE es i).1) := (HBz.out.cell (p := ⟨g, i * 2, none⟩) hgl).trans (H.out.go i hil)
          have x1 : wr.cell? ⟨g, i * 2 + 1, none⟩ = some (.bool (atE es i).2) := (HBz.out.cell (p := ⟨g, i * 2 + 1, none⟩) hgl).trans (H.out.gb i hil)
          obtain ⟨o0, o4⟩ := HG.out i hil
          have hl1000 : ((List.range (ngr es.length)).map (grpW es) ++ (es.take i).map entW).length < 1000 := by simp; omega
          have HT : Hid ((es.take (i + 1)).map entW = (es.take i).map entW ++ [entW (atE es i)]) := by
            show _ = _
            rw [List.take_succ_eq_append_getElem hil, List.map_append, atE_get hil]
            rfl
          generalize hq : atE es i = q at *
          cases hb : q.2
          · rw [hb] at x1
            have HE : Hid (entW q = q.1) := by show _ = _; simp [entW, hb]
            clear hb
            go_wp2_with fail
            refine (put_any w.heap.size _ _ _ (HWz.out.ext ((Below.refl _ _).alloc (Nat.le_refl _) _)) hl1000).mono ?_
            rintro e w3 ⟨rfl, hW3, hB3⟩
            have HW3 := Lib.hid hW3
            have HB3 := Lib.hid hB3
            clear hW3 hB3
            go_wp2_with fail
            go_roundg (es.length - (i + 1))
            case measure => omega
            case rel => exact ⟨i + 1, by omega, by go_num, by rw [HT.out, ← List.append_assoc, HE.out]; exact HW3.out, (HBz.out.alloc hsw _).trans HB3.out⟩
          · rw [hb] at x1
            have HE : Hid (entW q = q.1 + 8) := by show _ = _; simp [entW, hb]
            clear hb
            go_wp2_with fail
            refine (put_any w.heap.size _ _ _ (HWz.out.ext ((Below.refl _ _).alloc (Nat.le_refl _) _)) hl1000).mono ?_
            rintro e w3 ⟨rfl, hW3, hB3⟩
            have HW3 := Lib.hid hW3
            have HB3 := Lib.hid hB3
            clear hW3 hB3
            go_wp2_with fail
            go_roundg (es.length - (i + 1))
            case measure => omega
            case rel => exact ⟨i + 1, by omega, by go_num, by rw [HT.out, ← List.append_assoc, HE.out]; exact HW3.out, (HBz.out.alloc hsw _).trans HB3.out⟩
        · have ei : decide ((i : Int) < (es.length : Int)) = false := by simp; omega
          obtain rfl : i = es.length := by omega
          have HX : Hid (Wd wr w.heap.size (wordsOf es)) := by
            show Wd _ _ _
            have := HWz.out
            rw [List.take_length] at this
            exact this
          obtain ⟨v, hv, hown⟩ := HX.out.val
          obtain ⟨A, cap, rfl, hsl, hfr⟩ := own_sl2 hown
          have hlw := HX.out.lt
          have HS := Lib.hid hsl
          have HF := Lib.hid hfr
          clear hown hsl hfr
          go_wp2_with fail
          try rw [Exit.noGoto_ret]
          go_ret
          exact ⟨A, cap, rfl, HS.out, fun a ha => Nat.le_of_succ_le (HF.out a ha), HBz.out⟩

end Go.Proofs.Ytjggnhcdnfmmeaa
