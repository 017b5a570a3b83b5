/- What this text holds: Run and Twin of a core, walked. No condition. -/
import Derived.Test.YtkobeajbiendlaaDoorCorF
namespace Go.Proofs.YtkobeajbiendlaaDoor
open Go.RowKit

/-- What a core is behind k instructions of its own. -/
def runS (s : CoS) : Nat → CoS
  | 0 => s
  | k + 1 => locS (runS s k)
def runE (s : CoS) (n : Nat) : List Ev := (List.range n).map fun i => locE (runS s i)
theorem runS_ps (s : CoS) : ∀ k, (runS s k).ps = s.ps
  | 0 => rfl
  | k + 1 => runS_ps s k
theorem runE_succ (s : CoS) (k : Nat) : runE s (k + 1) = runE s k ++ [locE (runS s k)] := by
  unfold runE
  rw [List.range_succ, List.map_append]
  rfl
theorem runE_len (s : CoS) (k : Nat) : (runE s k).length = k := by simp [runE]
theorem runE_at (s : CoS) (n i : Nat) (h : i < n) : atV (runE s n) i = locE (runS s i) := by simp [atV, runE, h]

theorem row_ext {w w' : World} {base : Nat} {e : TypeId} {size n : Nat} {v : Value} {xs : List Value} (h : w.ownsRow base e size v n xs) (hb : Below w.heap.size w w') : w'.ownsRow base e size v n xs := row_keep h (fun g hg => hb.block g (h.lt g hg).2)
theorem ev_at {W : World} {b : Nat} {e : Ev} {t : TypeId} {fr : Nat × Nat} (h : W.heap[b]? = some (.cells #[.int .i64 e.co, .int .i64 e.a, .int .i64 e.op, .int .i64 e.wo, .int .i64 e.wd, .int .i64 e.va, .int .i64 e.cd] t fr)) : ∀ ad, some (⟨b, 0, none⟩ : Addr) = some ad → ∀ j u, e.cells[j]? = some u → W.cell? (ad.add j) = some u := by
  intro ad he j u hu
  obtain rfl := Option.some.inj he
  rw [Addr.add_lit, Nat.zero_add]
  unfold World.cell?
  rw [h]
  have hj : j < 7 := (List.getElem?_eq_some_iff.1 hu).1
  have : j = 0 ∨ j = 1 ∨ j = 2 ∨ j = 3 ∨ j = 4 ∨ j = 5 ∨ j = 6 := by omega
  rcases this with rfl | rfl | rfl | rfl | rfl | rfl | rfl <;> exact hu

/-- A run under way. -/
structure Rn (w0 w : World) (p : Nat) (v : Value) (s : CoS) (k : Nat) (lv : Value) : Prop where
  kc : Kc w p v (runS s k)
  row : w.ownsRow w0.heap.size 42 7 lv k (flatV7 (runE s k))
  gr : w0.grownBy w (some p)
theorem Rn.lift {w0 w1 w2 w3 : World} {p : Nat} {v : Value} {s : CoS} {k : Nat} {lv lv' : Value} (h0 : Kc w0 p v s) (hk : Kc w1 p v (runS s (k + 1))) (hg : w0.grownBy w1 (some p)) (hb : Below w1.heap.size w1 w2) (hr : ∀ g, lv.ownBlock = some g → w0.heap.size ≤ g) (hgr : w2.grownBy w3 lv.ownBlock)
    (ho : w3.ownsRow w0.heap.size 42 7 lv' (k + 1) (flatV7 (runE s k) ++ (locE (runS s k)).cells)) : Rn w0 w3 p v s (k + 1) lv' := by
  have hk2 := hk.ext hb
  have hg2 : w0.grownBy w2 (some p) := gr_two hg ⟨hb.os, hb.tape, hb.output, hb.size, fun q hq _ => hb.block q hq⟩
  refine ⟨?_, ?_, ?_⟩
  · cases hl : lv.ownBlock with
    | none =>
      rw [hl] at hgr
      exact hk2.ext ⟨hgr.os, hgr.tape, hgr.output, hgr.size, fun q hq => hgr.block q hq (fun e => by cases e)⟩
    | some g =>
      rw [hl] at hgr
      exact h0.past hk2 (runS_ps s (k + 1)) hgr (hr g hl)
  · rw [runE_succ, flatV7_app]
    have e : flatV7 [locE (runS s k)] = (locE (runS s k)).cells := by simp [flatV7]
    rw [e]
    exact ho
  · cases hl : lv.ownBlock with
    | none =>
      rw [hl] at hgr
      exact gr_two hg2 ⟨hgr.os, hgr.tape, hgr.output, hgr.size, fun q hq _ => hgr.block q hq (fun e => by cases e)⟩
    | some g =>
      rw [hl] at hgr
      exact gr_N hg2 hgr (hr g hl)

set_option maxRecDepth 100000 in
set_option maxHeartbeats 4000000 in
theorem krun_any (p : Nat) (v : Value) (s : CoS) (n : Int) (w : World) (h : Kc w p v s) (hg : GoodP s.ps) (hn : n ≤ 100) :
    Calls Tryd.prog 18 #[.pointer (some ⟨p, 0, none⟩), .int .i64 n] w fun e w' => ∃ (k : Nat) (A : Option Addr) (c : Nat), e = .returned (.slice A k c) ∧ Rn w w' p v s k (.slice A k c) ∧ ((k : Int) ≤ n ∨ k = 0) ∧ (n ≤ k ∨ isLoc (runS s k) = false) ∧ ∀ i, i < k → isLoc (runS s i) = true := by
  have H := Lib.hid h
  have HG := Lib.hid hg
  obtain ⟨i0, hi, hz0, hz1, hz2⟩ := info_parts info_ev
  clear h hg
  go_enter Tryd.func18, Tryd.ntmps18
  go_wp2_with fail
  go_step3
  go_wp2_with fail
  go_step3
  go_wp2_with fail
  go_loopg [5] n.toNat (fun g s5 wr => ∃ (k : Nat) (A : Option Addr) (c : Nat), s5 = .slice A k c ∧ k + g = n.toNat ∧ Hid (Rn w wr p v s k (.slice A k c)) ∧ Hid (∀ i, i < k → isLoc (runS s i) = true))
  case atStart => exact ⟨0, none, 0, rfl, by omega, Lib.hid ⟨H.out, World.ownsRow_nil _ _ _ _, ⟨rfl, rfl, rfl, Nat.le_refl _, fun _ _ _ => rfl⟩⟩, Lib.hid (fun i hi => by omega)⟩
  case round =>
    obtain ⟨k, A, c, rfl, hk, HR, HI⟩ := hrel
    by_cases hlt : (k : Int) < n
    · have ek : decide ((k : Int) < n) = true := by simpa using hlt
      have hk100 : k < 100 := by omega
      cases hl : isLoc (runS s k)
      · have HL := Lib.hid hl
        clear hl
        go_wp2_with fail
        refine (klocal_not p v (runS s k) _ HR.out.kc (by rw [runS_ps]; exact HG.out) HL.out).mono ?_
        rintro e w1 ⟨rfl, hb⟩
        have HB := Lib.hid hb
        clear hb
        go_wp2_with fail
        (try rw [Exit.noGoto_ret])
        go_ret
        have hb2 := ext_trans HB.out (ext_alloc (.cells #[.int .i64 0, .int .i64 0, .int .i64 0, .int .i64 0, .int .i64 0, .int .i64 0, .int .i64 0] 42) (Below.refl _ w1))
        exact ⟨k, A, c, rfl, ⟨HR.out.kc.ext hb2, row_ext HR.out.row hb2, gr_two HR.out.gr ⟨hb2.os, hb2.tape, hb2.output, hb2.size, fun q hq _ => hb2.block q hq⟩⟩, .inl (by omega), .inr HL.out, HI.out⟩
      · have HL := Lib.hid hl
        clear hl
        go_wp2_with fail
        refine (klocal_yes p v (runS s k) _ HR.out.kc (by rw [runS_ps]; exact HG.out) HL.out).mono ?_
        rintro e w1 ⟨rfl, hK, hg1⟩
        have HK1 := Lib.hid hK
        have HG1 := Lib.hid (gr_two HR.out.gr hg1)
        have hrb : ∀ g, (Value.slice A k c).ownBlock = some g → w.heap.size ≤ g := fun g hg => (HR.out.row.lt g hg).1
        have HRB := Lib.hid hrb
        have HO1 := Lib.hid (row_keep HR.out.row (fun g hg => hg1.block g (HR.out.row.lt g hg).2 (fun e => by have := Option.some.inj e; have := hrb g hg; have := H.out.lt; omega)))
        have HEV := Lib.hid (rfl : locE (runS s k) = locE (runS s k))
        clear hK hg1 hrb
        generalize he : locE (runS s k) = ev at HEV
        have HE := Lib.hid he
        clear he HEV
        obtain ⟨ec, ea, eo, ew, ed, ev', ecd⟩ := ev
        simp only [Ev.cells]
        go_wp2_with (at_builtin; refine wpList_append_full _ rfl _ _ 39 rfl w.heap.size 42 i0 (.agg #[.int .i64 0, .int .i64 0, .int .i64 0, .int .i64 0, .int .i64 0, .int .i64 0, .int .i64 0]) 7 56 Tryd.underlying39 hi hz0 hz1 hz2 rfl (by decide) (.slice A k c) k (flatV7 (runE s k)) rfl (row_ext HO1.out (ext_alloc _ (ext_alloc _ (Below.refl _ _)))) (some ⟨w1.heap.size + 1, 0, none⟩) 1 1 (Ev.cells ⟨ec, ea, eo, ew, ed, ev', ecd⟩) rfl (fun e => by cases e) rfl (ev_at (e := ⟨ec, ea, eo, ew, ed, ev', ecd⟩) (alNew (by simp))) (flatV7_one [⟨ec, ea, eo, ew, ed, ev', ecd⟩]) ?c3 ?c4 ?c5 ?_)
        case c3 => unfold maxLen; omega
        case c4 => omega
        case c5 => have := HG1.out.size; simp; omega
        intro A3 c3 w3 h3 ho3 hg3 hf3
        have HRN := Lib.hid (Rn.lift (k := k) H.out HK1.out HG1.out (ext_alloc _ (ext_alloc _ (Below.refl _ _))) HRB.out hg3 (by rw [HE.out]; exact ho3))
        clear h3 ho3 hg3 hf3
        go_wp2_with fail
        go_roundg (n.toNat - (k + 1))
        case measure => omega
        case rel => exact ⟨k + 1, A3, c3, rfl, by omega, HRN, Lib.hid (fun i hi => by
          by_cases hik : i = k
          · rw [hik]; exact HL.out
          · exact HI.out i (by omega))⟩
    · have ek : decide ((k : Int) < n) = false := by simpa using hlt
      go_wp2_with fail
      (try rw [Exit.noGoto_ret])
      go_ret
      exact ⟨k, A, c, rfl, HR.out, by omega, .inl (by omega), HI.out⟩

set_option maxRecDepth 100000 in
set_option maxHeartbeats 1000000 in
theorem ktwin_any (p : Nat) (v : Value) (s : CoS) (w : World) (h : Kc w p v s) (hl : s.ps.length ≤ 1000) :
    Calls Tryd.prog 17 #[.pointer (some ⟨p, 0, none⟩)] w fun e w' => ∃ q v', e = .returned (.pointer (some ⟨q, 0, none⟩)) ∧ Kc w' q v' s ∧ w.heap.size ≤ q ∧ (∀ g, v'.ownBlock = some g → w.heap.size ≤ g) ∧ Below w.heap.size w w' := by
  have H := Lib.hid h
  obtain ⟨k0, k1, k2, k3, k4, k5, k6, k7, k8⟩ := h.cells
  have hpl := h.lt
  obtain ⟨A, c, rfl, hS, hA⟩ := h.pg
  have HS := Lib.hid hS
  have HA := Lib.hid hA
  clear h hS hA
  go_enter Tryd.func17, Tryd.ntmps17
  go_wp2_with fail
  have hal : Below w.heap.size w (w.alloc (.cells #[.int .i64 (s.r 0), .int .i64 (s.r 1), .int .i64 (s.r 2), .int .i64 (s.r 3), .int .i64 s.a, .int .i64 s.wo, .bool s.ov, .int .i64 s.no, .slice A s.ps.length c] 34)) := ext_alloc _ (Below.refl _ _)
  refine (iclone_any A s.ps c _ (HS.out.ext hal) HA.out hl).mono ?_
  rintro e w1 ⟨v', rfl, hP, hv, hb⟩
  have hbk := (hb.block w.heap.size (by simp)).trans (alNew rfl)
  have HBK := Lib.hid hbk
  have HP := Lib.hid hP
  have HV := Lib.hid hv
  have HB := Lib.hid (ext_trans hal hb)
  have c8 : w1.cell? ⟨w.heap.size, 8, none⟩ = some (.slice A s.ps.length c) := by simp [World.cell?, hbk]
  have cf : w1.frozen? ⟨w.heap.size, 8, none⟩ = false := by simp [World.frozen?, hbk]
  have cl := lt_of hbk
  obtain ⟨A', c', rfl, _, _⟩ := hP
  clear hv hb hal hbk
  go_wp2_with fail
  go_ret
  have s1 := Joins.block_setCell (i := 8) HBK.out (.slice A' s.ps.length c')
  have hne : ∀ ad : Addr, A' = some ad → ad.block ≠ w.heap.size := fun ad e => by
    have := (HV.out ad.block (by rw [e]; rfl)).1
    simp at this
    omega
  refine ⟨w.heap.size, _, rfl, ⟨by simpa using s1, HP.out.keep (fun g hg => Below.heap_setCell _ _ _ _ (fun e => ?_)), fun ad c2 n2 e => ?_⟩, Nat.le_refl _, fun g hg => Nat.le_trans (by simp) (HV.out g hg).1, HB.out.setCell (p := ⟨w.heap.size, 8, none⟩) (Nat.le_refl _) _⟩
  · cases A' with
    | none => cases hg
    | some ad => exact hne ad rfl (by cases hg; exact e)
  · obtain ⟨rfl, _, _⟩ := Value.slice.inj e
    exact hne ad rfl

end Go.Proofs.YtkobeajbiendlaaDoor
