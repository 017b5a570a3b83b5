/- What this text holds: a checker in memory; a new one; finding a granule. No condition. -/
import Derived.Test.YtjggnhcdnfmmeaaDel
import Derived.Test.YtjggnhcdnfmmeaaRnd
import Derived.Deep.RegionHeld3
import Derived.Laws.StructEq
namespace Go.Proofs.Ytjggnhcdnfmmeaa
open Go.RowKit

/-- What is known of a granule: its number, its owner. -/
abbrev Fa := Int × Int
def atF (ks : List Fa) (i : Nat) : Fa := ks[i]?.getD (0, 0)
def flatF (ks : List Fa) : List Value := ks.flatMap fun k => [.int .i64 k.1, .int .i64 k.2]
theorem flatF_len (ks : List Fa) : (flatF ks).length = ks.length * 2 := by
  induction ks with
  | nil => rfl
  | cons x xs ih => simp [flatF] at ih ⊢; omega
theorem flatF_at (ks : List Fa) : ∀ i, i < ks.length → (flatF ks)[i * 2]? = some (.int .i64 (atF ks i).1) ∧ (flatF ks)[i * 2 + 1]? = some (.int .i64 (atF ks i).2) := by
  induction ks with
  | nil => intro i hi; simp at hi
  | cons x xs ih =>
    intro i hi
    cases i with
    | zero => exact ⟨rfl, rfl⟩
    | succ i =>
      obtain ⟨h1, h2⟩ := ih i (by simpa using hi)
      constructor
      · rw [Nat.succ_mul]
        simpa [flatF, atF] using h1
      · rw [Nat.succ_mul]
        simpa [flatF, atF] using h2
theorem flatF_one (ks : List Fa) : ∀ u ∈ flatF ks, u.oneCell' = true := by
  intro u hu
  simp only [flatF, List.mem_flatMap] at hu
  obtain ⟨x, _, hx⟩ := hu
  simp at hx
  rcases hx with rfl | rfl <;> rfl
theorem flatF_app (xs ys : List Fa) : flatF (xs ++ ys) = flatF xs ++ flatF ys := by simp [flatF]
theorem flatF_take (ks : List Fa) (m : Nat) : (flatF ks).take (m * 2) = flatF (ks.take m) := by
  induction ks generalizing m with
  | nil => simp [flatF]
  | cons x xs ih =>
    cases m with
    | zero => simp [flatF]
    | succ m =>
      rw [Nat.succ_mul]
      have := ih m
      simp [flatF] at this ⊢
      exact this
theorem info_fact : (Try.prog.info? 98).map (fun i => (i.zero, i.size, i.bytes)) = some (some (.agg #[.int .i64 0, .int .i64 0]), 2, 16) := by kernel_rfl

/-- A checker's state. -/
structure CkS where
  wk : Bool
  g : Int
  a : Int
  st : Bool
  en : Int
  gr : Int
  ks : List Fa
/-- A checker in memory. -/
structure Ck (w : World) (p : Nat) (v : Value) (s : CkS) : Prop where
  blk : w.heap[p]? = some (.cells #[.bool s.wk, .int .i64 s.g, .int .i64 s.a, .bool s.st, .int .i64 s.en, .int .i64 s.gr, v] 93 (0, 0))
  own : w.ownsRow 0 98 2 v s.ks.length (flatF s.ks)
  ne : v.ownBlock ≠ some p
theorem Ck.lt {w : World} {p : Nat} {v : Value} {s : CkS} (h : Ck w p v s) : p < w.heap.size := lt_of h.blk
theorem Ck.cells {w : World} {p : Nat} {v : Value} {s : CkS} (h : Ck w p v s) : w.cell? ⟨p, 0, none⟩ = some (.bool s.wk) ∧ w.cell? ⟨p, 1, none⟩ = some (.int .i64 s.g) ∧ w.cell? ⟨p, 2, none⟩ = some (.int .i64 s.a) ∧ w.cell? ⟨p, 3, none⟩ = some (.bool s.st) ∧ w.cell? ⟨p, 4, none⟩ = some (.int .i64 s.en) ∧ w.cell? ⟨p, 5, none⟩ = some (.int .i64 s.gr) ∧ w.cell? ⟨p, 6, none⟩ = some v := by
  have := h.blk
  simp [World.cell?, this]
theorem Ck.free {w : World} {p : Nat} {v : Value} {s : CkS} (h : Ck w p v s) (i : Nat) : w.frozen? ⟨p, i, none⟩ = false := by
  have := h.blk
  simp [World.frozen?, this]
theorem Ck.keep {w w' : World} {p : Nat} {v : Value} {s : CkS} (h : Ck w p v s) (k : ∀ g, g = p ∨ v.ownBlock = some g → w'.heap[g]? = w.heap[g]?) : Ck w' p v s :=
  ⟨(k p (.inl rfl)).trans h.blk, row_keep h.own (fun g hg => k g (.inr hg)), h.ne⟩
theorem Ck.ext {w w' : World} {p : Nat} {v : Value} {s : CkS} (h : Ck w p v s) (hb : Below w.heap.size w w') : Ck w' p v s :=
  h.keep (fun g hg => hb.block g (hg.elim (fun e => e ▸ h.lt) (fun e => (h.own.lt g e).2)))

/-- A slice of facts that reads as a list. -/
def SlF (w : World) (A : Option Addr) (ks : List Fa) : Prop :=
  0 < ks.length → ∃ b off, A = some ⟨b, off, none⟩ ∧ b < w.heap.size ∧ ∀ i, i < ks.length → w.cell? ⟨b, off + i * 2, none⟩ = some (.int .i64 (atF ks i).1) ∧ w.cell? ⟨b, off + i * 2 + 1, none⟩ = some (.int .i64 (atF ks i).2)
theorem SlF.ext {w w' : World} {A : Option Addr} {ks : List Fa} (hb : Below w.heap.size w w') (h : SlF w A ks) : SlF w' A ks := fun h0 => by
  obtain ⟨b, off, hA, hl, hc⟩ := h h0
  exact ⟨b, off, hA, Nat.lt_of_lt_of_le hl hb.size, fun i hi => ⟨(hb.cell (p := ⟨b, off + i * 2, none⟩) hl).trans (hc i hi).1, (hb.cell (p := ⟨b, off + i * 2 + 1, none⟩) hl).trans (hc i hi).2⟩⟩
theorem row_slF {w : World} {base : Nat} {A : Option Addr} {n c : Nat} {ks : List Fa} (h : w.ownsRow base 98 2 (.slice A n c) ks.length (flatF ks)) : SlF w A ks := by
  rcases h.2 with ⟨hv, h0⟩ | ⟨g, cap, cur, hv, hb, hg, hc1, hc2, hc3, hc4⟩
  · intro h1
    omega
  · obtain ⟨rfl, _, _⟩ := Value.slice.inj hv
    have key : ∀ j u, (flatF ks)[j]? = some u → w.cell? ⟨g, 0 + j, none⟩ = some u := by
      intro j u hu
      have hj : j < ks.length * 2 := by rw [← flatF_len]; exact (List.getElem?_eq_some_iff.1 hu).1
      rw [← hc4, List.getElem?_take, if_pos hj] at hu
      unfold World.cell?
      rw [hg, Nat.zero_add]
      simpa using hu
    exact fun _ => ⟨g, 0, rfl, (Array.getElem?_eq_some_iff.1 hg).1, fun i hi => ⟨key _ _ (flatF_at ks i hi).1, key _ _ (flatF_at ks i hi).2⟩⟩

theorem cnew_ok (n m : Int) (w : World) (h1 : 1 ≤ n) (h2 : n ≤ 8) (h3 : 1 ≤ m) (h4 : m ≤ 16) : Calls Try.prog 13 #[.int .i64 n, .int .i64 m] w fun e w' =>
    e = .returned (.tuple #[.pointer (some ⟨w.heap.size, 0, none⟩), .int .i64 0]) ∧ Ck w' w.heap.size (.slice none 0 0) ⟨false, 0, 0, false, n, m, []⟩ ∧ Below w.heap.size w w' := by
  have e0 : decide (n < 1) = false := by simp; omega
  have e1 : decide (n > 8) = false := by simp; omega
  have e2 : decide (m < 1) = false := by simp; omega
  have e3 : decide (m > 16) = false := by simp; omega
  go_enter Try.func13, Try.ntmps13
  go_wp2
  go_ret2
  exact ⟨rfl, ⟨alNew rfl, World.ownsRow_nil _ _ _ _, fun e => by cases e⟩, (by repeat (with_reducible first | exact Below.refl _ _ | assumption | (refine ext_next (by assumption) ?_) | apply ext_alloc | apply ext_past | apply ext_drew | apply ext_drewN))⟩

theorem Ck.val {w : World} {p : Nat} {v : Value} {s : CkS} (h : Ck w p v s) : ∃ A cap, v = .slice A s.ks.length cap ∧ SlF w A s.ks ∧ (A = none → s.ks.length = 0 ∧ cap = 0) := by
  obtain ⟨A, c, rfl, hA⟩ := row_form h.own
  exact ⟨A, c, rfl, row_slF h.own, hA⟩

theorem isg_any (x y g : Int) (b : Nat) (w : World) (hb : w.heap[b]? = some (.cells #[.int .i64 g] 3 (0, 0))) :
    Calls Try.prog 55 #[.agg #[.int .i64 x, .int .i64 y], .pointer (some ⟨b, 0, none⟩)] w fun e w' => e = .returned (.bool (x == g)) ∧ Below w.heap.size w w' := by
  have kb := cell_of hb
  have hl := lt_of hb
  clear hb
  go_enter Try.func55, Try.ntmps55
  go_wp2
  go_ret
  exact ⟨rfl, (by repeat (with_reducible first | exact Below.refl _ _ | assumption | (refine ext_next (by assumption) ?_) | apply ext_alloc | apply ext_past | apply ext_drew | apply ext_drewN))⟩

/-- Where a granule is among facts: at k first, or nowhere. -/
def AtFirst (ks : List Fa) (g : Int) (k : Nat) : Prop := k < ks.length ∧ (atF ks k).1 = g ∧ ∀ i, i < k → (atF ks i).1 ≠ g
def Nowhere (ks : List Fa) (g : Int) : Prop := ∀ i, i < ks.length → (atF ks i).1 ≠ g
theorem where_to (ks : List Fa) (g : Int) : ∀ n, n ≤ ks.length → (∃ k, AtFirst ks g k) ∨ ∀ i, i < n → (atF ks i).1 ≠ g
  | 0, _ => .inr (fun i hi => by omega)
  | n + 1, h => by
    rcases where_to ks g n (by omega) with h1 | h1
    · exact .inl h1
    · by_cases hn : (atF ks n).1 = g
      · exact .inl ⟨n, by omega, hn, h1⟩
      · refine .inr (fun i hi => ?_)
        by_cases hin : i = n
        · rw [hin]; exact hn
        · exact h1 i (by omega)
theorem where_is (ks : List Fa) (g : Int) : (∃ k, AtFirst ks g k) ∨ Nowhere ks g := where_to ks g _ (Nat.le_refl _)

set_option maxRecDepth 100000 in
theorem index_any (A : Option Addr) (cap b : Nat) (ks : List Fa) (g : Int) (r : Int) (w : World) (h : SlF w A ks) (hb : w.heap[b]? = some (.cells #[.int .i64 g] 3 (0, 0))) (hl : ks.length ≤ 100)
    (hr : (∃ k : Nat, AtFirst ks g k ∧ r = k) ∨ (Nowhere ks g ∧ r = -1)) :
    Calls Try.prog 54 #[.slice A ks.length cap, .func (.func 55) #[] #[.pointer (some ⟨b, 0, none⟩)]] w fun e w' => e = .returned (.int .i64 r) ∧ Below w.heap.size w w' := by
  have H := Lib.hid h
  have HB := Lib.hid hb
  have HR := Lib.hid hr
  clear h hb hr
  go_enter Try.func54, Try.ntmps54
  go_wp2_with fail
  go_loopg [8] ks.length (fun g8 s8 wr => ∃ k : Nat, k + g8 = ks.length ∧ s8 = .int .i64 k ∧ Hid (Below w.heap.size w wr) ∧ Hid (∀ i, i < k → (atF ks i).1 ≠ g))
  case atStart => exact ⟨0, by omega, rfl, Below.refl _ _, Lib.hid (fun i hi => by omega)⟩
  case round =>
    obtain ⟨k, hk, rfl, HW, HI⟩ := hrel
    by_cases hlt : k < ks.length
    · have ek : decide ((k : Int) < (ks.length : Int)) = true := by simp; omega
      obtain ⟨bb, off, rfl, hbb, hc⟩ := H.out (by omega)
      have c0 := (HW.out.cell (p := ⟨bb, off + k * 2, none⟩) hbb).trans (hc k hlt).1
      have c1 := (HW.out.cell (p := ⟨bb, off + k * 2 + 1, none⟩) hbb).trans (hc k hlt).2
      have HF : Hid ((atF ks k).1 = g → AtFirst ks g k) := Lib.hid (fun e => ⟨hlt, e, HI.out⟩)
      clear hc
      generalize hxy : atF ks k = xy at *
      obtain ⟨x, y⟩ := xy
      have HXY := Lib.hid hxy
      clear hxy
      by_cases hx : x = g
      · have ex : (x == g) = true := by simpa using hx
        have HX := Lib.hid hx
        clear hx
        go_wp2_with fail
        refine (isg_any x y g b _ ((HW.out.block b (lt_of HB.out)).trans HB.out)).mono ?_
        rintro e w2 ⟨rfl, hb2⟩
        have HB2 := Lib.hid (HW.out.trans (hb2.mono HW.out.size))
        rw [ex]
        clear hb2
        go_wp2_with fail
        go_ret
        refine ⟨ret_int ?_, HB2.out⟩
        have hf := HF.out HX.out
        rcases HR.out with ⟨k', hk', rfl⟩ | ⟨hno, _⟩
        · have h1 := hk'.2.2
          have h2 := hf.2.2
          have : k = k' := by
            rcases Nat.lt_trichotomy k k' with h | h | h
            · exact absurd hf.2.1 (h1 k h)
            · exact h
            · exact absurd hk'.2.1 (h2 k' h)
          rw [this]
        · exact absurd hf.2.1 (hno k hlt)
      · have ex : (x == g) = false := by simpa using hx
        have HX := Lib.hid hx
        clear hx
        go_wp2_with fail
        refine (isg_any x y g b _ ((HW.out.block b (lt_of HB.out)).trans HB.out)).mono ?_
        rintro e w2 ⟨rfl, hb2⟩
        have HB2 := Lib.hid (HW.out.trans (hb2.mono HW.out.size))
        rw [ex]
        clear hb2
        go_wp2_with fail
        go_roundg (ks.length - (k + 1))
        case measure => omega
        case rel =>
          refine ⟨k + 1, by omega, by go_num, HB2, Lib.hid (fun i hi => ?_)⟩
          by_cases hik : i = k
          · rw [hik, HXY.out]; exact HX.out
          · exact HI.out i (by omega)
    · have ek : decide ((k : Int) < (ks.length : Int)) = false := by simp; omega
      go_wp2_with fail
      go_ret
      refine ⟨ret_int ?_, HW.out⟩
      rcases HR.out with ⟨k', hk', _⟩ | ⟨_, rfl⟩
      · exact absurd hk'.2.1 (HI.out k' (by have := hk'.1; omega))
      · rfl

theorem find_any (p : Nat) (v : Value) (s : CkS) (g r : Int) (w : World) (h : Ck w p v s) (hl : s.ks.length ≤ 100) (hr : (∃ k : Nat, AtFirst s.ks g k ∧ r = k) ∨ (Nowhere s.ks g ∧ r = -1)) :
    Calls Try.prog 39 #[.pointer (some ⟨p, 0, none⟩), .int .i64 g] w fun e w' => e = .returned (.int .i64 r) ∧ Below w.heap.size w w' := by
  obtain ⟨A, cap, rfl, hsl, _⟩ := h.val
  have c6 := h.cells.2.2.2.2.2.2
  have hlt := h.lt
  have HS := Lib.hid hsl
  have HR := Lib.hid hr
  clear h hsl hr
  go_enter Try.func39, Try.ntmps39
  go_wp2_with fail
  refine (index_any A cap w.heap.size s.ks g r _ (HS.out.ext (ext_alloc _ (Below.refl _ _))) (alNew rfl) hl HR.out).mono ?_
  rintro e w1 ⟨rfl, hb⟩
  go_wp2_with fail
  go_ret
  exact ⟨rfl, ext_trans (ext_alloc _ (Below.refl _ _)) hb⟩

end Go.Proofs.Ytjggnhcdnfmmeaa
