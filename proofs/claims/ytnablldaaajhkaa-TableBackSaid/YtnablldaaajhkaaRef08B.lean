/- What this text holds: the document's words of a row of entries. No condition. -/
import Derived.Test.YtnablldaaajhkaaRef08
import Derived.Deep.OwnRows
namespace Go.Proofs.Ytnablldaaajhkaa
open Go.RowKit

/-- A list whose first k numbers are laid. -/
def fillTo (ws : List Int) (k : Nat) : List Int := ws.take k ++ List.replicate (ws.length - k) 0
theorem fill_len {ws : List Int} {k : Nat} (h : k ≤ ws.length) : (fillTo ws k).length = ws.length := by simp [fillTo]; omega
theorem fill_set {ws : List Int} {k : Nat} {x : Int} (h : k < ws.length) (hx : ws[k]? = some x) : (fillTo ws k).set k x = fillTo ws (k + 1) := by
  unfold fillTo
  rw [List.set_append_right _ _ (by simp; omega)]
  obtain ⟨_, hx'⟩ := List.getElem?_eq_some_iff.1 hx
  rw [List.take_succ_eq_append_getElem h, hx', List.append_assoc]
  congr 1
  simp only [List.length_take, Nat.min_eq_left (Nat.le_of_lt h), Nat.sub_self]
  rw [show ws.length - k = ws.length - (k + 1) + 1 by omega, List.replicate_succ]
  rfl
theorem fill_all (ws : List Int) : fillTo ws ws.length = ws := by simp [fillTo]
theorem words_len (es : List En) : (wordsOf es).length = ngr es.length + es.length := by simp [wordsOf]
theorem words_grp {es : List En} {k : Nat} (h : k < ngr es.length) : (wordsOf es)[k]? = some (grpW es k) := by
  unfold wordsOf
  rw [List.getElem?_append_left (by simpa using h)]
  simp [h]
theorem words_ent {es : List En} {i : Nat} (h : i < es.length) : (wordsOf es)[ngr es.length + i]? = some (entW (atE es i)) := by
  unfold wordsOf
  rw [List.getElem?_append_right (by simp)]
  simp [h, atE]

theorem OwnI.ext {w w' : World} {base g : Nat} {xs : List Int} (h : OwnI w base g xs) (hb : Below w.heap.size w w') : OwnI w' base g xs :=
  ⟨h.base, Nat.lt_of_lt_of_le h.lt hb.size, fun i hi => (hb.cell (p := ⟨g, i, none⟩) h.lt).trans (h.cell i hi), fun i => (hb.frozen (p := ⟨g, i, none⟩) h.lt).trans (h.frozen i)⟩
theorem own_fill {w : World} {base g : Nat} {ws : List Int} {k : Nat} {x : Int} (h : OwnI w base g (fillTo ws k)) (hk : k < ws.length) (hx : ws[k]? = some x) : OwnI (w.setCell ⟨g, k, none⟩ (.int .i64 x)) base g (fillTo ws (k + 1)) := by
  rw [← fill_set hk hx]
  exact h.set k x

theorem own_fill2 {w : World} {base g : Nat} {ws : List Int} {k : Nat} {y x : Int} (h : OwnI w base g (fillTo ws k)) (hk : k < ws.length) (hx : ws[k]? = some x) : OwnI ((w.setCell ⟨g, k, none⟩ (.int .i64 y)).setCell ⟨g, k, none⟩ (.int .i64 x)) base g (fillTo ws (k + 1)) := by
  rw [← fill_set hk hx, ← List.set_set y]
  exact (h.set k y).set k x

set_option maxRecDepth 100000 in
set_option maxHeartbeats 4000000 in
theorem words8_any (b cap : Nat) (es : List En) (w : World) (h : Rb w b es) (hn : es.length ≤ 16) (hgood : Good es) :
    Calls Try.prog 49 #[.slice (some ⟨b, 0, none⟩) es.length cap] w fun e w' => ∃ g, e = .returned (.slice (some ⟨g, 0, none⟩) (wordsOf es).length (wordsOf es).length) ∧ OwnI w' w.heap.size g (wordsOf es) ∧ Below w.heap.size w w' := by
  have hlt := h.lt
  have H := Lib.hid h
  have HG := Lib.hid hgood
  clear h hgood
  have hng : ngr es.length ≤ 4 := by unfold ngr; omega
  have hmk := run_make_row' (P := Try.prog) 39 3 (.int .i64 0) 8 Try.underlying39 info_int rfl .i64 .i64 (ngr es.length + es.length) (by omega) (by omega)
  have ec : ((ngr es.length + es.length : Nat) : Int) = (ngr es.length : Int) + (es.length : Int) := by omega
  rw [ec] at hmk
  generalize hM : madeCells #[Value.int .i64 0] (ngr es.length + es.length) = Mc at hmk
  have HM := Lib.hid hM
  clear hM ec
  go_enter Try.func49, Try.ntmps49
  go_wp2_with fail
  refine (groups_any _ _ hn).mono ?_
  rintro e w1 ⟨rfl, hw⟩
  rw [hw]
  clear hw w1
  go_wp2_with fail
  clear hmk
  have hwl := words_len es
  have HL := Lib.hid hwl
  clear hwl
  have hO : OwnI (w.alloc (.cells Mc 3)) w.heap.size w.heap.size (fillTo (wordsOf es) 0) := by
    refine ⟨Nat.le_refl _, by simp, fun i hi => ?_, fun i => ?_⟩
    · rw [fill_len (Nat.zero_le _), HL.out] at hi
      have hz : (fillTo (wordsOf es) 0)[i]?.getD 0 = 0 := by
        have : i < (wordsOf es).length := by rw [HL.out]; exact hi
        simp [fillTo, this]
      rw [hz]
      unfold World.cell?
      rw [heap_alloc_new w (.cells Mc 3), ← HM.out]
      simp [madeCells, hi, Nat.mod_one]
    · unfold World.frozen?
      rw [heap_alloc_new w (.cells Mc 3)]
      simp
  have HO := Lib.hid hO
  have HB0 : Hid (Below w.heap.size w (w.alloc (.cells Mc 3))) := Lib.hid (by repeat (with_reducible first | exact Below.refl _ _ | assumption | (refine ext_next (by assumption) ?_) | apply ext_alloc | apply ext_past | apply ext_drew | apply ext_drewN))
  clear hO HM
  go_loopg [5] (ngr es.length) (fun g5 s5 wr => ∃ k : Nat, k + g5 = ngr es.length ∧ s5 = .int .i64 k ∧ Hid (OwnI wr w.heap.size w.heap.size (fillTo (wordsOf es) k)) ∧ Hid (Below w.heap.size w wr))
  case atStart => exact ⟨0, by omega, rfl, HO, HB0⟩
  case round =>
    obtain ⟨k, hk, rfl, HOr, HB⟩ := hrel
    have hs := HB.out.size
    have hltr : b < wr.heap.size := by omega
    have hwlt := HOr.out.lt
    by_cases hkn : k < ngr es.length
    · have hf : 4 * k < es.length := by unfold ngr at hkn; omega
      obtain ⟨o0, o4⟩ := HG.out (4 * k) hf
      have ek : decide ((k : Int) < (ngr es.length : Int)) = true := by simp; omega
      have HX := Lib.hid (words_grp hkn)
      cases hp : grpOk es k
      · have HP := Lib.hid hp
        have HE : Hid (grpW es k = 4 * ((ngr es.length : Int) + 4 * k) + 1) := by show _ = _; simp [grpW, hp]
        clear hp
        go_wp2_with fail
        refine (plain_any b cap es k _ (H.out.ext HB.out) hn hkn).mono ?_
        rintro e w1 ⟨rfl, hb1⟩
        rw [HP.out]
        have hs1 := hb1.size
        have hltr1 : b < w1.heap.size := by omega
        have hc1 : w1.cell? ⟨w.heap.size, k, none⟩ = some (.int .i64 ((fillTo (wordsOf es) k)[k]?.getD 0)) := (hb1.cell (p := ⟨w.heap.size, k, none⟩) hwlt).trans (HOr.out.cell k (by rw [fill_len (by rw [HL.out]; omega), HL.out]; omega))
        have hf1 : w1.frozen? ⟨w.heap.size, k, none⟩ = false := (hb1.frozen (p := ⟨w.heap.size, k, none⟩) hwlt).trans (HOr.out.frozen k)
        have z0 := (hb1.cell (p := ⟨b, 4 * k * 2, none⟩) hltr).trans ((HB.out.cell (p := ⟨b, 4 * k * 2, none⟩) hlt).trans (H.out.go (4 * k) hf))
        have HB1 := Lib.hid hb1
        clear hb1
        generalize (fillTo (wordsOf es) k)[k]?.getD 0 = old at hc1
        go_wp2_with fail
        go_roundg (ngr es.length - (k + 1))
        case measure => omega
        case rel => exact ⟨k + 1, by omega, by go_num, own_fill (HOr.out.ext HB1.out) (by rw [HL.out]; omega) (by rw [HX.out, HE.out]), (HB.out.trans (HB1.out.mono hs)).setCell (p := ⟨w.heap.size, k, none⟩) (Nat.le_refl _) _⟩
      · have HP := Lib.hid hp
        have HE : Hid (grpW es k = 4 * (atE es (4 * k)).1) := by show _ = _; simp [grpW, hp]
        clear hp
        go_wp2_with fail
        refine (plain_any b cap es k _ (H.out.ext HB.out) hn hkn).mono ?_
        rintro e w1 ⟨rfl, hb1⟩
        rw [HP.out]
        have hs1 := hb1.size
        have hltr1 : b < w1.heap.size := by omega
        have hc1 : w1.cell? ⟨w.heap.size, k, none⟩ = some (.int .i64 ((fillTo (wordsOf es) k)[k]?.getD 0)) := (hb1.cell (p := ⟨w.heap.size, k, none⟩) hwlt).trans (HOr.out.cell k (by rw [fill_len (by rw [HL.out]; omega), HL.out]; omega))
        have hf1 : w1.frozen? ⟨w.heap.size, k, none⟩ = false := (hb1.frozen (p := ⟨w.heap.size, k, none⟩) hwlt).trans (HOr.out.frozen k)
        have z0 := (hb1.cell (p := ⟨b, 4 * k * 2, none⟩) hltr).trans ((HB.out.cell (p := ⟨b, 4 * k * 2, none⟩) hlt).trans (H.out.go (4 * k) hf))
        have HB1 := Lib.hid hb1
        clear hb1
        generalize (fillTo (wordsOf es) k)[k]?.getD 0 = old at hc1
        go_wp2_with fail
        go_roundg (ngr es.length - (k + 1))
        case measure => omega
        case rel => exact ⟨k + 1, by omega, by go_num, own_fill (HOr.out.ext HB1.out) (by rw [HL.out]; omega) (by rw [HX.out, HE.out]), (HB.out.trans (HB1.out.mono hs)).setCell (p := ⟨w.heap.size, k, none⟩) (Nat.le_refl _) _⟩
    · have ek : decide ((k : Int) < (ngr es.length : Int)) = false := by simp; omega
      have HOk : Hid (OwnI wr w.heap.size w.heap.size (fillTo (wordsOf es) (ngr es.length))) := by
        have : k = ngr es.length := by omega
        rw [← this]
        exact HOr
      clear hk
      go_wp2_with fail
      go_loopg [6] es.length (fun g6 s6 wz => ∃ i : Nat, i + g6 = es.length ∧ s6 = .int .i64 i ∧ Hid (OwnI wz w.heap.size w.heap.size (fillTo (wordsOf es) (ngr es.length + i))) ∧ Hid (Below w.heap.size w wz))
      case atStart => exact ⟨0, by omega, rfl, HOk, HB⟩
      case round =>
        obtain ⟨i, hi, rfl, HOz, HBz⟩ := hrel
        have hsz := HBz.out.size
        have hltz : b < wr.heap.size := by omega
        have hwlt := HOz.out.lt
        by_cases hil : i < es.length
        · obtain ⟨o0, o4⟩ := HG.out i hil
          have ei : decide ((i : Int) < (es.length : Int)) = true := by simp; omega
          have HX := Lib.hid (words_ent hil)
          have x0 := (HBz.out.cell (p := ⟨b, i * 2, none⟩) hlt).trans (H.out.go i hil)
          have x1 := (HBz.out.cell (p := ⟨b, i * 2 + 1, none⟩) hlt).trans (H.out.gb i hil)
          have hc1 : wr.cell? ⟨w.heap.size, ngr es.length + i, none⟩ = some (.int .i64 ((fillTo (wordsOf es) (ngr es.length + i))[ngr es.length + i]?.getD 0)) := HOz.out.cell _ (by rw [fill_len (by rw [HL.out]; omega), HL.out]; omega)
          have hf1 := HOz.out.frozen (ngr es.length + i)
          generalize (fillTo (wordsOf es) (ngr es.length + i))[ngr es.length + i]?.getD 0 = old at hc1
          have hbw : b ≠ w.heap.size := by omega
          cases hb : (atE es i).2
          · rw [hb] at x1
            have HE : Hid (entW (atE es i) = (atE es i).1) := by show _ = _; simp [entW, hb]
            clear hb
            go_wp2_with fail
            go_roundg (es.length - (i + 1))
            case measure => omega
            case rel => exact ⟨i + 1, by omega, by go_num, own_fill HOz.out (by rw [HL.out]; omega) (by rw [HX.out, HE.out]), HBz.out.setCell (p := ⟨w.heap.size, ngr es.length + i, none⟩) (Nat.le_refl _) _⟩
          · rw [hb] at x1
            have HE : Hid (entW (atE es i) = (atE es i).1 + 8) := by show _ = _; simp [entW, hb]
            clear hb
            go_wp2_with fail
            go_roundg (es.length - (i + 1))
            case measure => omega
            case rel => exact ⟨i + 1, by omega, by go_num, own_fill2 HOz.out (by rw [HL.out]; omega) (by rw [HX.out, HE.out]), (HBz.out.setCell (p := ⟨w.heap.size, ngr es.length + i, none⟩) (Nat.le_refl _) _).setCell (p := ⟨w.heap.size, ngr es.length + i, none⟩) (Nat.le_refl _) _⟩
        · have ei : decide ((i : Int) < (es.length : Int)) = false := by simp; omega
          have HOk : Hid (OwnI wr w.heap.size w.heap.size (wordsOf es)) := by
            have : ngr es.length + i = (wordsOf es).length := by rw [HL.out]; omega
            have h := HOz.out
            rw [this, fill_all] at h
            exact h
          clear hi
          go_wp2_with fail
          go_ret
          exact ⟨w.heap.size, by rw [HL.out]; rfl, HOk.out, HBz.out⟩

end Go.Proofs.Ytnablldaaajhkaa
