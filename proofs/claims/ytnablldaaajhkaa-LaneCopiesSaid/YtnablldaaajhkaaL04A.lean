/- What this text holds: the walk of the law LanePlays. No condition. -/
import Derived.Test.YtnablldaaajhkaaLanS
import Derived.Test.YtnablldaaajhkaaOpen04
namespace Go.Proofs.Ytnablldaaajhkaa
open Go.RowKit

theorem SlP.ext {w w' : World} {A : Option Addr} {l : List Op4} (h : SlP w A l) (hb : Below w.heap.size w w') : SlP w' A l :=
  ⟨fun h0 => by
    obtain ⟨b, off, hA, hl, hc⟩ := h.cells h0
    exact ⟨b, off, hA, Nat.lt_of_lt_of_le hl hb.size, fun i hi j u hu => (hb.cell (p := ⟨b, off + i * 3 + j, none⟩) hl).trans (hc i hi j u hu)⟩,
  fun i hi => ⟨(h.notes i hi).1.ext hb, (h.notes i hi).2⟩⟩

def fewB (l : List Op4) : Prop := (∀ i, i < l.length → (atP l i).ys.length ≤ 20) ∧ l.length ≤ 60

set_option maxRecDepth 100000 in
theorem few04_yes (A : Option Addr) (cap : Nat) (l : List Op4) (w : World) (h : SlP w A l) (hf : fewB l) : Calls Try.prog 17 #[.slice A l.length cap] w fun e w' => e = .returned (.bool true) ∧ w' = w := by
  have H := Lib.hid h
  have HF := Lib.hid hf
  have hl := hf.2
  clear h hf
  go_enter Try.func17, Try.ntmps17
  go_wp2_with fail
  go_loopg [3] l.length (fun g3 s3 wr => ∃ k : Nat, k + g3 = l.length ∧ s3 = .int .i64 k ∧ wr = w)
  case atStart => exact ⟨0, by omega, rfl, rfl⟩
  case round =>
    obtain ⟨k, hk, rfl, rfl⟩ := hrel
    by_cases hlt : k < l.length
    · have ek : decide ((k : Int) < (l.length : Int)) = true := by simp; omega
      obtain ⟨b, off, rfl, hb, hc⟩ := H.out.cells (by omega)
      have c2 : wr.cell? ⟨b, off + k * 3 + 2, none⟩ = some (.slice (atP l k).A (atP l k).ys.length (atP l k).c) := hc k hlt 2 _ rfl
      have hy := HF.out.1 k hlt
      have ey : decide (((atP l k).ys.length : Int) > 20) = false := by simp; omega
      clear hc
      go_wp2_with fail
      go_roundg (l.length - (k + 1))
      case measure => omega
      case rel => exact ⟨k + 1, by omega, by go_num, rfl⟩
    · have ek : decide ((k : Int) < (l.length : Int)) = false := by simp; omega
      have el : decide ((l.length : Int) ≤ 60) = true := by simp; omega
      go_wp2_with fail
      go_ret
      exact ⟨rfl, rfl⟩

set_option maxRecDepth 100000 in
theorem few04_no (A : Option Addr) (cap : Nat) (l : List Op4) (w : World) (h : SlP w A l) (hf : ¬ fewB l) (hm : l.length ≤ maxLen) : Calls Try.prog 17 #[.slice A l.length cap] w fun e w' => e = .returned (.bool false) ∧ w' = w := by
  have H := Lib.hid h
  have HF := Lib.hid hf
  unfold maxLen at hm
  clear h hf
  go_enter Try.func17, Try.ntmps17
  go_wp2_with fail
  go_loopg [3] l.length (fun g3 s3 wr => ∃ k : Nat, k + g3 = l.length ∧ s3 = .int .i64 k ∧ wr = w ∧ Hid (∀ i, i < k → (atP l i).ys.length ≤ 20))
  case atStart => exact ⟨0, by omega, rfl, rfl, Lib.hid (fun i hi => by omega)⟩
  case round =>
    obtain ⟨k, hk, rfl, rfl, HI⟩ := hrel
    by_cases hlt : k < l.length
    · have ek : decide ((k : Int) < (l.length : Int)) = true := by simp; omega
      obtain ⟨b, off, rfl, hb, hc⟩ := H.out.cells (by omega)
      have c2 : wr.cell? ⟨b, off + k * 3 + 2, none⟩ = some (.slice (atP l k).A (atP l k).ys.length (atP l k).c) := hc k hlt 2 _ rfl
      clear hc
      by_cases hy : (atP l k).ys.length ≤ 20
      · have ey : decide (((atP l k).ys.length : Int) > 20) = false := by simp; omega
        go_wp2_with fail
        go_roundg (l.length - (k + 1))
        case measure => omega
        case rel => exact ⟨k + 1, by omega, by go_num, rfl, Lib.hid (fun i hi => by
          by_cases he : i = k
          · subst he; exact hy
          · exact HI.out i (by omega))⟩
      · have ey : decide (((atP l k).ys.length : Int) > 20) = true := by simp; omega
        go_wp2_with fail
        go_ret
        exact ⟨rfl, rfl⟩
    · have ek : decide ((k : Int) < (l.length : Int)) = false := by simp; omega
      have el : decide ((l.length : Int) ≤ 60) = false := by
        simp
        by_cases h60 : l.length ≤ 60
        · exact absurd ⟨fun i hi => HI.out i (by omega), h60⟩ HF.out
        · omega
      go_wp2_with fail
      go_ret
      exact ⟨rfl, rfl⟩

theorem plays_out (d : Int) (A : Option Addr) (m cap : Nat) (w : World) (h : d < 1 ∨ 16 < d) :
    Calls Try.prog 4 #[.int .i64 d, .slice A m cap] w fun e w' => e = .returned (.bool true) ∧ Below w.heap.size w w' := by
  have HD := Lib.hid h
  rcases h with h | h
  · skip
    go_enter Try.func4, Try.ntmps4
    go_wp2_with fail
    refine (lnew_no d _ HD.out).mono ?_
    rintro e w' ⟨rfl, rfl⟩
    go_wp2_with fail
    refine (awake04 _).mono ?_
    rintro e w1 ⟨rfl, hb⟩
    go_wp2_with fail
    go_ret
    exact ⟨rfl, hb⟩
  · have e1 : decide (d < 1) = false := by simp; omega
    go_enter Try.func4, Try.ntmps4
    go_wp2_with fail
    refine (lnew_no d _ HD.out).mono ?_
    rintro e w' ⟨rfl, rfl⟩
    go_wp2_with fail
    refine (awake04 _).mono ?_
    rintro e w1 ⟨rfl, hb⟩
    go_wp2_with fail
    go_ret
    exact ⟨rfl, hb⟩

/-- A lane and the document's, behind some calls. -/
structure Run4 (W w : World) (p q : Nat) (d : Int) : Prop where
  lr : ∃ v v' xs, LR W.heap.size w p q d v v' xs ∧ (xs.length : Int) ≤ d
  below : Below W.heap.size W w
theorem LR.start {W w1 : World} {p : Nat} {d : Int} (hL : La w1 p d (.slice none 0 0) []) (hp : W.heap.size ≤ p) : LR W.heap.size (w1.alloc (.cells #[.int .i64 d, .slice none 0 0] 33)) p w1.heap.size d (.slice none 0 0) (.slice none 0 0) [] := by
  have hl := hL.lt
  refine ⟨hL.ext (ext_alloc _ (Below.refl _ _)), ⟨by simp, by simp [World.cell?_alloc_at], by simp [World.cell?_alloc_at], fun i => by simp [World.frozen?_alloc_at], World.ownsRow_nil _ _ _ _, fun e => by cases e⟩, by omega, (fun e => by cases e), (fun e => by cases e), (fun g e => by cases e), hp, by omega, (fun g e => by cases e), (fun g e => by cases e)⟩
theorem Run4.start {W w1 : World} {p : Nat} {d : Int} (hL : La w1 p d (.slice none 0 0) []) (hp : W.heap.size ≤ p) (hB : Below W.heap.size W w1) (h1 : 1 ≤ d) : Run4 W (w1.alloc (.cells #[.int .i64 d, .slice none 0 0] 33)) p w1.heap.size d :=
  ⟨⟨_, _, _, LR.start hL hp, by simp; omega⟩, hB.alloc hB.size _⟩

set_option maxRecDepth 100000 in
set_option maxHeartbeats 2000000 in
theorem plays_in (d : Int) (A : Option Addr) (cap : Nat) (l : List Op4) (w : World) (h : SlP w A l) (hm : l.length ≤ maxLen) (h1 : 1 ≤ d) (h2 : d ≤ 16) :
    Calls Try.prog 4 #[.int .i64 d, .slice A l.length cap] w fun e w' => e = .returned (.bool true) ∧ Below w.heap.size w w' := by
  have H := Lib.hid h
  have e1 : decide (d < 1) = false := by simp; omega
  have e2 : decide (d > 16) = false := by simp; omega
  clear h
  by_cases hf : fewB l
  · have HF := Lib.hid hf
    clear hf
    go_enter Try.func4, Try.ntmps4
    go_wp2_with fail
    refine (lnew_ok d _ h1 h2).mono ?_
    rintro e w1 ⟨rfl, hL, hB⟩
    have HL := Lib.hid hL
    have HB := Lib.hid hB
    have hwl := hL.lt
    clear hL hB
    go_wp2_with fail
    refine (few04_yes A cap l _ (H.out.ext HB.out) HF.out).mono ?_
    rintro e w1' ⟨rfl, hw⟩
    subst hw
    go_wp2_with fail
    obtain ⟨q, hq⟩ : ∃ q, q = w1'.heap.size := ⟨_, rfl⟩
    have HS := Lib.hid (Run4.start HL.out (Nat.le_refl _) HB.out h1)
    rw [← hq] at HS
    rw [← hq]
    clear hq
    go_loopg [8] l.length (fun g8 s8 wr => ∃ k : Nat, k + g8 = l.length ∧ s8 = .int .i64 k ∧ Hid (Run4 w wr w.heap.size q d))
    case atStart => exact ⟨0, by omega, rfl, HS⟩
    case round =>
      obtain ⟨k, hk, rfl, HR⟩ := hrel
      by_cases hlt : k < l.length
      · have ek : decide ((k : Int) < (l.length : Int)) = true := by simp; omega
        obtain ⟨b, off, rfl, hb, hc⟩ := H.out.cells (by omega)
        have c0 : wr.cell? ⟨b, off + k * 3, none⟩ = some (.int .i64 (atP l k).a) := (HR.out.below.cell (p := ⟨b, off + k * 3, none⟩) hb).trans (hc k hlt 0 _ rfl)
        have c1 : wr.cell? ⟨b, off + k * 3 + 1, none⟩ = some (.int .i64 (atP l k).t) := (HR.out.below.cell (p := ⟨b, off + k * 3 + 1, none⟩) hb).trans (hc k hlt 1 _ rfl)
        have c2 : wr.cell? ⟨b, off + k * 3 + 2, none⟩ = some (.slice (atP l k).A (atP l k).ys.length (atP l k).c) := (HR.out.below.cell (p := ⟨b, off + k * 3 + 2, none⟩) hb).trans (hc k hlt 2 _ rfl)
        have hN := Lib.hid (H.out.notes k hlt)
        have h20 := HF.out.1 k hlt
        have h60 := HF.out.2
        clear hc
        generalize atP l k = o at *
        obtain ⟨v, v', xs, hP, hx⟩ := HR.out.lr
        have HP := Lib.hid hP
        clear hP
        go_wp2_with fail
        refine (does_any w _ q d v v' xs o.ys o.a o.t o.A o.c _ HP.out hN.out.1 HR.out.below hN.out.2 (by omega) h2 hx h20).mono ?_
        rintro e w2 ⟨rfl, v1, v1', xs1, hP1, hx1, hT⟩
        have HP1 := Lib.hid hP1
        have HB2 := Lib.hid (hT.below HP.out HR.out.below)
        clear hP1 hT
        go_wp2_with fail
        refine (same04 w.heap.size _ q d v1 v1' xs1 _ HP1.out (by omega) h2 hx1).mono ?_
        rintro e w3 ⟨rfl, hb3⟩
        have HR3 := Lib.hid (Run4.mk ⟨v1, v1', xs1, HP1.out.ext hb3, hx1⟩ (HB2.out.trans (hb3.mono HB2.out.size)) : Run4 w w3 w.heap.size q d)
        clear hb3
        go_wp2_with fail
        go_roundg (l.length - (k + 1))
        case measure => omega
        case rel => exact ⟨k + 1, by omega, by go_num, HR3⟩
      · have ek : decide ((k : Int) < (l.length : Int)) = false := by simp; omega
        go_wp2_with fail
        refine (awake04 _).mono ?_
        rintro e w2 ⟨rfl, hb2⟩
        have HB2 := Lib.hid (HR.out.below.trans (hb2.mono HR.out.below.size))
        clear hb2
        go_wp2_with fail
        go_ret
        exact ⟨rfl, HB2.out⟩
  · have HF := Lib.hid hf
    clear hf
    go_enter Try.func4, Try.ntmps4
    go_wp2_with fail
    refine (lnew_ok d _ h1 h2).mono ?_
    rintro e w1 ⟨rfl, hL, hB⟩
    have HB := Lib.hid hB
    clear hL hB
    go_wp2_with fail
    refine (few04_no A cap l _ (H.out.ext HB.out) HF.out hm).mono ?_
    rintro e w1' ⟨rfl, hw⟩
    subst hw
    go_wp2_with fail
    refine (awake04 _).mono ?_
    rintro e w2 ⟨rfl, hb⟩
    have HB2 := Lib.hid (ext_trans HB.out hb)
    clear hb
    go_wp2_with fail
    go_ret
    exact ⟨rfl, HB2.out⟩

theorem plays_walk (d : Int) (A : Option Addr) (cap : Nat) (l : List Op4) (w : World) (h : SlP w A l) (hm : l.length ≤ maxLen) :
    Calls Try.prog 4 #[.int .i64 d, .slice A l.length cap] w fun e w' => e = .returned (.bool true) ∧ Below w.heap.size w w' := by
  by_cases hd : d < 1 ∨ 16 < d
  · exact plays_out d A _ cap w hd
  · exact plays_in d A cap l w h hm (by omega) (by omega)

end Go.Proofs.Ytnablldaaajhkaa
