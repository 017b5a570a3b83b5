/- What this text holds: facts that are deleted where they lie. No condition. -/
import Derived.Test.YtjggnhcdnfmmeaaChkB
namespace Go.Proofs.Ytjggnhcdnfmmeaa
open Go.RowKit

/-- Is a fact to go? -/
def delB (g x : Int) : Bool := g == -1 || x == g
def kept (g : Int) (ks : List Fa) : List Fa := ks.filter fun k => !delB g k.1
/-- The two closures of Drop in memory: the granule's box, and the box of the first closure. -/
structure Dl (w : World) (bg bf : Nat) (g : Int) : Prop where
  hg : w.heap[bg]? = some (.cells #[.int .i64 g] 3 (0, 0))
  hf : w.heap[bf]? = some (.cells #[.func (.func 40) #[] #[.pointer (some ⟨bg, 0, none⟩)]] 99 (0, 0))
theorem Dl.ext {w w' : World} {bg bf : Nat} {g : Int} (h : Dl w bg bf g) (hb : Below w.heap.size w w') : Dl w' bg bf g := ⟨(hb.block _ (lt_of h.hg)).trans h.hg, (hb.block _ (lt_of h.hf)).trans h.hf⟩

theorem gone_any (x g : Int) (bg : Nat) (w : World) (hb : w.heap[bg]? = some (.cells #[.int .i64 g] 3 (0, 0))) :
    Calls Try.prog 40 #[.int .i64 x, .pointer (some ⟨bg, 0, none⟩)] w fun e w' => e = .returned (.bool (delB g x)) ∧ w' = w := by
  have kb := cell_of hb
  unfold delB
  clear hb
  cases h1 : (g == -1)
  · cases h2 : (x == g)
    · go_enter Try.func40, Try.ntmps40
      go_wp2
      go_ret
      exact ⟨rfl, rfl⟩
    · go_enter Try.func40, Try.ntmps40
      go_wp2
      go_ret
      exact ⟨rfl, rfl⟩
  · go_enter Try.func40, Try.ntmps40
    go_wp2
    go_ret
    exact ⟨rfl, rfl⟩
theorem del_any (x y g : Int) (bg bf : Nat) (w : World) (h : Dl w bg bf g) :
    Calls Try.prog 42 #[.agg #[.int .i64 x, .int .i64 y], .pointer (some ⟨bf, 0, none⟩)] w fun e w' => e = .returned (.bool (delB g x)) ∧ Below w.heap.size w w' := by
  have kf := cell_of h.hf
  have lf := lt_of h.hf
  have H := Lib.hid h
  clear h
  go_enter Try.func42, Try.ntmps42
  go_wp2_with fail
  refine (gone_any x g bg _ (alOld H.out.hg)).mono ?_
  rintro e w2 ⟨rfl, hw⟩
  have HB : Hid (Below w.heap.size w w2) := Lib.hid (by rw [hw]; exact ext_alloc _ (Below.refl _ _))
  clear hw
  go_wp2_with fail
  go_ret
  exact ⟨rfl, HB.out⟩

set_option maxRecDepth 100000 in
theorem indexd_any (A : Option Addr) (cap bg bf : Nat) (ks : List Fa) (g : Int) (r : Int) (w : World) (h : SlF w A ks) (hb : Dl w bg bf g) (hl : ks.length ≤ 100)
    (hr : (∃ k : Nat, k < ks.length ∧ delB g (atF ks k).1 = true ∧ (∀ i, i < k → delB g (atF ks i).1 = false) ∧ r = k) ∨ ((∀ i, i < ks.length → delB g (atF ks i).1 = false) ∧ r = -1)) :
    Calls Try.prog 54 #[.slice A ks.length cap, .func (.func 42) #[] #[.pointer (some ⟨bf, 0, none⟩)]] w fun e w' => e = .returned (.int .i64 r) ∧ Below w.heap.size w w' := by
  have H := Lib.hid h
  have HB := Lib.hid hb
  have HR := Lib.hid hr
  clear h hb hr
  go_enter Try.func54, Try.ntmps54
  go_wp2_with fail
  go_loopg [8] ks.length (fun g8 s8 wr => ∃ k : Nat, k + g8 = ks.length ∧ s8 = .int .i64 k ∧ Hid (Below w.heap.size w wr) ∧ Hid (∀ i, i < k → delB g (atF ks i).1 = false))
  case atStart => exact ⟨0, by omega, rfl, Below.refl _ _, Lib.hid (fun i hi => by omega)⟩
  case round =>
    obtain ⟨k, hk, rfl, HW, HI⟩ := hrel
    by_cases hlt : k < ks.length
    · have ek : decide ((k : Int) < (ks.length : Int)) = true := by simp; omega
      obtain ⟨bb, off, rfl, hbb, hc⟩ := H.out (by omega)
      have c0 := (HW.out.cell (p := ⟨bb, off + k * 2, none⟩) hbb).trans (hc k hlt).1
      have c1 := (HW.out.cell (p := ⟨bb, off + k * 2 + 1, none⟩) hbb).trans (hc k hlt).2
      clear hc
      generalize hxy : atF ks k = xy at *
      obtain ⟨x, y⟩ := xy
      have HXY := Lib.hid hxy
      clear hxy
      go_wp2_with fail
      refine (del_any x y g bg bf _ (HB.out.ext HW.out)).mono ?_
      rintro e w2 ⟨rfl, hb2⟩
      have HB2 := Lib.hid (HW.out.trans (hb2.mono HW.out.size))
      clear hb2
      cases hd : delB g x
      · have HD := Lib.hid hd
        clear hd
        go_wp2_with fail
        go_roundg (ks.length - (k + 1))
        case measure => omega
        case rel =>
          refine ⟨k + 1, by omega, by go_num, HB2, Lib.hid (fun i hi => ?_)⟩
          by_cases hik : i = k
          · rw [hik, HXY.out]; exact HD.out
          · exact HI.out i (by omega)
      · have HD := Lib.hid hd
        clear hd
        go_wp2_with fail
        go_ret
        refine ⟨ret_int ?_, HB2.out⟩
        have hdk : delB g (atF ks k).1 = true := by rw [HXY.out]; exact HD.out
        rcases HR.out with ⟨k', h1, h2, h3, rfl⟩ | ⟨hno, _⟩
        · have : k = k' := by
            rcases Nat.lt_trichotomy k k' with h | h | h
            · have := h3 k h; rw [hdk] at this; cases this
            · exact h
            · have := HI.out k' h; rw [h2] at this; cases this
          rw [this]
        · have := hno k hlt; rw [hdk] at this; cases this
    · have ek : decide ((k : Int) < (ks.length : Int)) = false := by simp; omega
      go_wp2_with fail
      go_ret
      refine ⟨ret_int ?_, HW.out⟩
      rcases HR.out with ⟨k', h1, h2, _⟩ | ⟨_, rfl⟩
      · have := HI.out k' (by omega); rw [h2] at this; cases this
      · rfl

end Go.Proofs.Ytjggnhcdnfmmeaa
