/- What this text holds: which worlds are few, and what is wrong with a world, as the statements of layer 11 ask it. No condition. -/
import Derived.Test.YtkobeajbiendlaaDoorAtmT
import Derived.Test.YtkobeajbiendlaaDoorMay01
import Derived.Test.YtkobeajbiendlaaDoorRef10B
namespace Go.Proofs.YtkobeajbiendlaaDoor
open Go.RowKit

def fewL (l : List Pr) : Bool := l.all fun x => decide (x.ps.length ≤ 60)
def fewB (l : List Pr) (ws os ds : List Int) : Bool := fewL l && (((decide (l.length ≤ 6) && decide (ws.length ≤ 6)) && decide (os.length ≤ 20)) && decide (ds.length ≤ 80))
theorem fewL_take {l : List Pr} {k : Nat} (hk : k < l.length) : fewL (l.take (k + 1)) = (fewL (l.take k) && decide ((atR l k).ps.length ≤ 60)) := by
  rw [take_succR hk]
  simp [fewL]
theorem fewL_no {l : List Pr} {k : Nat} (hk : k < l.length) (h : decide ((atR l k).ps.length ≤ 60) = false) : fewL l = false := by
  have e : l = l.take (k + 1) ++ l.drop (k + 1) := (List.take_append_drop _ _).symm
  have h2 : fewL (l.take (k + 1)) = false := by rw [fewL_take hk, h]; simp
  rw [e]
  unfold fewL at h2 ⊢
  rw [List.all_append, h2]
  rfl
theorem fewB_len {l : List Pr} {ws os ds : List Int} (h : fewB l ws os ds = true) : l.length ≤ 6 ∧ ws.length ≤ 6 ∧ os.length ≤ 20 ∧ ds.length ≤ 80 ∧ ∀ i, i < l.length → (atR l i).ps.length ≤ 60 := by
  unfold fewB at h
  simp only [Bool.and_eq_true, decide_eq_true_eq] at h
  obtain ⟨h0, ⟨⟨h1, h2⟩, h3⟩, h4⟩ := h
  refine ⟨h1, h2, h3, h4, fun i hi => ?_⟩
  have := List.all_eq_true.1 h0 (atR l i) (by unfold atR; rw [List.getElem?_eq_getElem hi]; exact List.getElem_mem hi)
  simpa using this
section
variable (c : Cfg) (A B C D : Option Addr) (l : List Pr) (ws os ds : List Int) (c1 c2 c3 c4 : Nat) (w : World)
/-- A world's own box. -/
structure Wb (w wr : World) (b : Nat) (c : Cfg) (A B C D : Option Addr) (l : List Pr) (ws os ds : List Int) (c1 c2 c3 c4 : Nat) : Prop where
  be : Below w.heap.size w wr
  box : wr.heap[b]? = some (.cells #[.int .i64 c.co, .int .i64 c.gr, .int .i64 c.se, .int .i64 c.wa, .int .i64 c.de, .int .i64 c.en, .int .i64 c.ba, .slice A l.length c1, .slice B ws.length c2, .slice C os.length c3, .slice D ds.length c4] 69 (0, 0))
variable {c : Cfg} {A B C D : Option Addr} {l : List Pr} {ws os ds : List Int} {c1 c2 c3 c4 : Nat} {w : World} in
theorem Wb.ext {a b : World} {n : Nat} (h : Wb w a n c A B C D l ws os ds c1 c2 c3 c4) (hb : Below a.heap.size a b) : Wb w b n c A B C D l ws os ds c1 c2 c3 c4 := ⟨ext_trans h.be hb, (hb.block _ (lt_of h.box)).trans h.box⟩
theorem Wb.new : Wb w (w.alloc (.cells #[.int .i64 c.co, .int .i64 c.gr, .int .i64 c.se, .int .i64 c.wa, .int .i64 c.de, .int .i64 c.en, .int .i64 c.ba, .slice A l.length c1, .slice B ws.length c2, .slice C os.length c3, .slice D ds.length c4] 69)) w.heap.size c A B C D l ws os ds c1 c2 c3 c4 := ⟨ext_alloc _ (Below.refl _ _), alNew rfl⟩
set_option maxRecDepth 100000 in
set_option maxHeartbeats 4000000 in
theorem few_any (hA : SlR w A l) (hm : l.length ≤ maxLen) :
    Calls Tryd.prog 28 #[.agg #[.int .i64 c.co, .int .i64 c.gr, .int .i64 c.se, .int .i64 c.wa, .int .i64 c.de, .int .i64 c.en, .int .i64 c.ba, .slice A l.length c1, .slice B ws.length c2, .slice C os.length c3, .slice D ds.length c4]] w fun e w' => e = .returned (.bool (fewB l ws os ds)) ∧ Below w.heap.size w w' := by
  have HA := Lib.hid hA
  have HM := Lib.hid hm
  have HN := Lib.hid (Wb.new c A B C D l ws os ds c1 c2 c3 c4 w)
  clear hA hm
  go_enter Tryd.func28, Tryd.ntmps28
  go_wp2_with fail
  go_loopg [3] l.length (fun g s3 wr => ∃ k : Nat, s3 = .int .i64 k ∧ k + g = l.length ∧ Hid (fewL (l.take k) = true) ∧ Hid (Wb w wr w.heap.size c A B C D l ws os ds c1 c2 c3 c4))
  case atStart => exact ⟨0, rfl, by omega, Lib.hid rfl, HN⟩
  case round =>
    obtain ⟨k, rfl, hk, HT, HR⟩ := hrel
    obtain ⟨t0, t1, t2, t3, t4, t5, t6, t7, t8, t9, t10⟩ := eleven_at HR.out.box
    have hl1 := lt_of HR.out.box
    by_cases hlt : k < l.length
    · have ek : decide ((k : Int) < (l.length : Int)) = true := by simp; omega
      have ek2 : decide (k < l.length) = true := by simpa using hlt
      obtain ⟨b, off, hAA, hbl, hcs⟩ := ((HA.out.ext HR.out.be).cells (by omega))
      subst hAA
      have y0 := hcs k hlt
      have hkl : (k : Int) < (l.length : Int) := by omega
      have hmx : (l.length : Int) ≤ 9223372036854775807 := by have := HM.out; unfold maxLen at this; omega
      have HLT := Lib.hid (And.intro hk hlt)
      have HTK := Lib.hid (fewL_take hlt)
      have HNO := Lib.hid (fewL_no hlt)
      clear hcs hk hlt
      generalize hpn : (atR l k).ps.length = pn at *
      clear hpn
      by_cases h60 : pn ≤ 60
      · have e6 : decide ((pn : Int) > 60) = false := by simp; omega
        have HNX := Lib.hid (show fewL (l.take (k + 1)) = true by rw [HTK.out, HT.out]; simpa using h60)
        clear h60
        go_wp2_with fail
        go_roundg (l.length - (k + 1))
        case measure => have := HLT.out; omega
        case rel => exact ⟨k + 1, by go_num, by have := HLT.out; omega, HNX, HR⟩
      · have e6 : decide ((pn : Int) > 60) = true := by simp; omega
        have HF := Lib.hid (show fewB l ws os ds = false by unfold fewB; rw [HNO.out (by simpa using h60)]; rfl)
        clear h60
        go_wp2_with fail
        go_ret
        exact ⟨ret_bool (by rw [HF.out]), HR.out.be⟩
    · have ek : decide ((k : Int) < (l.length : Int)) = false := by simp; omega
      have ek2 : decide (k < l.length) = false := by simpa using hlt
      have HF := Lib.hid (show fewL l = true by have := HT.out; rwa [List.take_of_length_le (by omega)] at this)
      clear hk hlt
      go_wp2_with fail
      all_goals
        go_ret
        refine ⟨ret_bool ?_, HR.out.be⟩
        unfold fewB
        rw [HF.out]
        first
          | (simp; omega)
          | (rw [Bool.eq_iff_iff]; simp; omega)
end
end Go.Proofs.YtkobeajbiendlaaDoor
