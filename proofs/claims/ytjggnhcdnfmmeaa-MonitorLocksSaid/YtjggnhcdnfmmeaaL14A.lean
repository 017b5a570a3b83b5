/- What this text holds: the walk of the law MonitorLocks. No condition. -/
import Derived.Test.YtjggnhcdnfmmeaaMo1
import Derived.Test.YtjggnhcdnfmmeaaOpen14
import Derived.Deep.CutBlock
namespace Go.Proofs.Ytjggnhcdnfmmeaa
open Go.RowKit Go.Maps

def Op14.obj (o : Op14) : Obj := .cells #[.int .i64 o.k, .int .i64 o.a.co, .int .i64 o.a.wo, .int .i64 o.a.ca, .int .i64 o.a.gr, .int .i64 o.a.to, .int .i64 o.g, .int .i64 o.c] 72 (0, 0)
theorem op_at {W : World} {X : Nat} {o : Op14} (h : W.heap[X]? = some o.obj) : W.cell? ⟨X, 0, none⟩ = some (.int .i64 o.k) ∧ W.cell? ⟨X, 1, none⟩ = some (.int .i64 o.a.co) ∧ W.cell? ⟨X, 2, none⟩ = some (.int .i64 o.a.wo) ∧ W.cell? ⟨X, 3, none⟩ = some (.int .i64 o.a.ca) ∧ W.cell? ⟨X, 4, none⟩ = some (.int .i64 o.a.gr) ∧ W.cell? ⟨X, 5, none⟩ = some (.int .i64 o.a.to) ∧ W.cell? ⟨X, 6, none⟩ = some (.int .i64 o.g) ∧ W.cell? ⟨X, 7, none⟩ = some (.int .i64 o.c) ∧ X < W.heap.size := by
  unfold Op14.obj at h
  refine ⟨?_, ?_, ?_, ?_, ?_, ?_, ?_, ?_, lt_of h⟩ <;> simp [World.cell?, h]
/-- What was there, k entries of it. -/
def WaK (arr : Array Value) (es : List En) (k : Nat) : Prop := arr.size = 32 ∧ ∀ j, j < k → arr[j * 2]? = some (.int .i64 (atE es j).1) ∧ arr[j * 2 + 1]? = some (.bool (atE es j).2)
theorem WaK.next {arr : Array Value} {es : List En} {k : Nat} (h : WaK arr es k) (hk : k < 16) : WaK ((arr.setIfInBounds (k * 2) (.int .i64 (atE es k).1)).setIfInBounds (k * 2 + 1) (.bool (atE es k).2)) es (k + 1) := by
  obtain ⟨h1, h2⟩ := h
  refine ⟨by simpa using h1, fun j hj => ?_⟩
  by_cases e : j = k
  · subst e
    constructor
    · rw [Array.getElem?_setIfInBounds_ne (by omega), Array.getElem?_setIfInBounds_self_of_lt (by omega)]
    · rw [Array.getElem?_setIfInBounds_self_of_lt (by simp; omega)]
  · obtain ⟨a1, a2⟩ := h2 j (by omega)
    constructor
    · rw [Array.getElem?_setIfInBounds_ne (by omega), Array.getElem?_setIfInBounds_ne (by omega), a1]
    · rw [Array.getElem?_setIfInBounds_ne (by omega), Array.getElem?_setIfInBounds_ne (by omega), a2]
theorem was_at {W : World} {X : Nat} {arr : Array Value} {ty : TypeId} (h : W.heap[X]? = some (.cells arr ty (0, 0))) (hs : arr.size = 32) {i : Nat} (hi : i < 32) : W.cell? ⟨X, i, none⟩ = arr[i]? ∧ (∃ v, W.cell? ⟨X, i, none⟩ = some v) ∧ W.frozen? ⟨X, i, none⟩ = false ∧ X < W.heap.size := by
  have h1 : W.cell? ⟨X, i, none⟩ = arr[i]? := by simp [World.cell?, h]
  refine ⟨h1, ?_, by simp [World.frozen?, h], lt_of h⟩
  rw [h1]
  exact ⟨arr[i]'(by omega), by simp [hs, hi]⟩
theorem Mb.put {w W : World} {p t g b : Nat} {n : Int} {M : Nat} {s : Ms} {X : Nat} {arr : Array Value} {ty : TypeId} {bs : List (Nat × Obj)} (h : Mb w W p t g b n M s ((X, .cells arr ty (0, 0)) :: bs)) (hX : (X ≠ p ∧ X ≠ t ∧ X ≠ g ∧ X ≠ b) ∧ w.heap.size ≤ X) (hb : ∀ x ∈ bs, x.1 ≠ X) (i j : Nat) (u v : Value) :
    Mb w ((W.setCell ⟨X, i, none⟩ u).setCell ⟨X, j, none⟩ v) p t g b n M s ((X, .cells ((arr.setIfInBounds i u).setIfInBounds j v) ty (0, 0)) :: bs) := by
  have h1 := (h.bx (X, .cells arr ty (0, 0)) (by simp)).1
  refine Mb.add ((h.sub (bs' := bs) (fun x hx => List.mem_cons_of_mem _ hx)).off (X := X) (by simp) (fun q hq => ?_) hX.1 hb ?_) (Joins.block_setCell (Joins.block_setCell h1 u) v) ⟨hX.1.2.2.1, hX.1.2.2.2⟩
  · rw [Below.heap_setCell _ _ _ _ (by simpa using hq), Below.heap_setCell _ _ _ _ (by simpa using hq)]
  · exact (h.be.setCell (p := ⟨X, i, none⟩) hX.2 _).setCell (p := ⟨X, j, none⟩) hX.2 _
theorem SlO.at {w : World} {B : Option Addr} {l : List Op14} (h : SlO w B l) {k : Nat} (hk : k < l.length) : ∃ b off, B = some ⟨b, off, none⟩ ∧ b < w.heap.size ∧ ∀ W : World, W.heap[b]? = w.heap[b]? → W.cell? ⟨b, off + k * 8, none⟩ = some (.int .i64 (atO l k).k) ∧ W.cell? ⟨b, off + k * 8 + 1, none⟩ = some (.int .i64 (atO l k).a.co) ∧ W.cell? ⟨b, off + k * 8 + 2, none⟩ = some (.int .i64 (atO l k).a.wo) ∧ W.cell? ⟨b, off + k * 8 + 3, none⟩ = some (.int .i64 (atO l k).a.ca) ∧ W.cell? ⟨b, off + k * 8 + 4, none⟩ = some (.int .i64 (atO l k).a.gr) ∧ W.cell? ⟨b, off + k * 8 + 5, none⟩ = some (.int .i64 (atO l k).a.to) ∧ W.cell? ⟨b, off + k * 8 + 6, none⟩ = some (.int .i64 (atO l k).g) ∧ W.cell? ⟨b, off + k * 8 + 7, none⟩ = some (.int .i64 (atO l k).c) := by
  obtain ⟨b, off, hB, hb, hc⟩ := h (by omega)
  refine ⟨b, off, hB, hb, fun W e => ?_⟩
  have q := fun j u hu => (World.cell?_of_block (a := ⟨b, off + k * 8 + j, none⟩) e).trans (hc k hk j u hu)
  exact ⟨q 0 _ rfl, q 1 _ rfl, q 2 _ rfl, q 3 _ rfl, q 4 _ rfl, q 5 _ rfl, q 6 _ rfl, q 7 _ rfl⟩
/-- A monitor's ok, out of memory. -/
theorem Mb.ok {w W : World} {p t g b : Nat} {n : Int} {M : Nat} {s : Ms} {bs : List (Nat × Obj)} (h : Mb w W p t g b n M s bs) : s.ok := by
  obtain ⟨B, m1, m2⟩ := h.m
  exact m1.ok
theorem Mb.lts {w W : World} {p t g b : Nat} {n : Int} {M : Nat} {s : Ms} {bs : List (Nat × Obj)} (h : Mb w W p t g b n M s bs) : p < W.heap.size ∧ t < W.heap.size ∧ g < W.heap.size ∧ b < W.heap.size ∧ w.heap.size ≤ W.heap.size := by
  obtain ⟨B, m1, m2⟩ := h.m
  exact ⟨m1.lt.1, m1.lt.2.1, m1.lt.2.2.1, m1.lt.2.2.2, h.be.size⟩

set_option maxRecDepth 100000 in
set_option maxHeartbeats 4000000 in
theorem locks_no {w : World} {A B : Option Addr} {cap cap' : Nat} {os : List Int} {l : List Op14} (hA : SlI w A os) (h : newM 3 os ≠ 0) :
    Calls Try.prog 7 #[.slice A os.length cap, .slice B l.length cap'] w fun e w' => e = .returned (.bool true) ∧ Below w.heap.size w w' := by
  have HNE := Lib.hid h
  have HNW := Lib.hid (fun (W : World) (hb : Below w.heap.size w W) => mnew_any 3 A cap os (hA.ext hb))
  obtain ⟨r, hr⟩ : ∃ r, r = newM 3 os := ⟨_, rfl⟩
  have e1 : (r != 0) = true := by rw [hr]; simpa using h
  have HR := Lib.hid hr
  clear hA h hr
  go_enter Try.func7, Try.ntmps7
  go_wp2_with fail
  refine (HNW.out _ (by repeat (with_reducible first | exact Below.refl _ _ | assumption | (refine ext_next (by assumption) ?_) | apply ext_alloc | apply ext_past | apply ext_drew | apply ext_drewN))).mono ?_
  rintro e w1 ⟨hb1, h1⟩
  rcases h1 with ⟨_, he⟩ | ⟨h2, _⟩
  case inr => exact absurd h2 HNE.out
  subst he
  rw [← HR.out]
  have HB1 := Lib.hid (show Below w.heap.size w w1 from ext_next hb1 (by repeat (with_reducible first | exact Below.refl _ _ | assumption | (refine ext_next (by assumption) ?_) | apply ext_alloc | apply ext_past | apply ext_drew | apply ext_drewN)))
  clear hb1
  go_wp2_with fail
  refine (awake14 _).mono ?_
  rintro e w3 ⟨rfl, hb3⟩
  go_wp2_with fail
  go_ret
  exact ⟨rfl, ext_trans HB1.out hb3⟩
set_option maxRecDepth 100000 in
set_option maxHeartbeats 4000000 in
theorem locks_long {w : World} {A B : Option Addr} {cap cap' : Nat} {os : List Int} {l : List Op14} (hA : SlI w A os) (h0 : newM 3 os = 0) (hl : 60 < l.length) :
    Calls Try.prog 7 #[.slice A os.length cap, .slice B l.length cap'] w fun e w' => e = .returned (.bool true) ∧ Below w.heap.size w w' := by
  have HZ := Lib.hid h0
  have HNW := Lib.hid (fun (W : World) (hb : Below w.heap.size w W) => mnew_any 3 A cap os (hA.ext hb))
  have el1 : decide ((60 : Int) < (l.length : Int)) = true := decide_eq_true (by omega)
  have el2 : decide (60 < l.length) = true := decide_eq_true hl
  have el3 : (60 : Int) < (l.length : Int) := by omega
  clear hA h0
  go_enter Try.func7, Try.ntmps7
  go_wp2_with fail
  refine (HNW.out _ (by repeat (with_reducible first | exact Below.refl _ _ | assumption | (refine ext_next (by assumption) ?_) | apply ext_alloc | apply ext_past | apply ext_drew | apply ext_drewN))).mono ?_
  rintro e w1 ⟨hb1, h1⟩
  rcases h1 with ⟨h2, _⟩ | ⟨_, p, t, g, bm, he, hm1⟩
  · exact absurd HZ.out h2
  subst he
  have HB1 := Lib.hid (show Below w.heap.size w w1 from ext_next hb1 (by repeat (with_reducible first | exact Below.refl _ _ | assumption | (refine ext_next (by assumption) ?_) | apply ext_alloc | apply ext_past | apply ext_drew | apply ext_drewN)))
  clear hb1 hm1
  go_wp2_with fail
  refine (awake14 _).mono ?_
  rintro e w3 ⟨rfl, hb3⟩
  go_wp2_with fail
  go_ret
  exact ⟨rfl, ext_trans HB1.out hb3⟩
set_option maxRecDepth 100000 in
set_option maxHeartbeats 16000000 in
theorem locks_yes {w : World} {A B : Option Addr} {cap cap' : Nat} {os : List Int} {l : List Op14} (hA : SlI w A os) (hB : SlO w B l) (h0 : newM 3 os = 0) (hl : ¬ 60 < l.length) :
    Calls Try.prog 7 #[.slice A os.length cap, .slice B l.length cap'] w fun e w' => e = .returned (.bool true) ∧ Below w.heap.size w w' := by
  have HZ := Lib.hid h0
  have HNW := Lib.hid (fun (W : World) (hb : Below w.heap.size w W) => mnew_any 3 A cap os (hA.ext hb))
  have HBB := Lib.hid hB
  have h16 : os.length ≤ 16 := by
    unfold newM at h0
    split at h0
    · exact absurd h0 (by decide)
    · omega
  have HL := Lib.hid (And.intro h16 hl)
  have el1 : decide ((60 : Int) < (l.length : Int)) = false := decide_eq_false (by omega)
  have el2 : decide (60 < l.length) = false := decide_eq_false hl
  have el3 : ¬ (60 : Int) < (l.length : Int) := by omega
  clear hA hB h0 h16 hl
  go_enter Try.func7, Try.ntmps7
  go_wp2_with fail
  refine (HNW.out _ (by repeat (with_reducible first | exact Below.refl _ _ | assumption | (refine ext_next (by assumption) ?_) | apply ext_alloc | apply ext_past | apply ext_drew | apply ext_drewN))).mono ?_
  rintro e w1 ⟨hb1, h1⟩
  rcases h1 with ⟨h2, _⟩ | ⟨_, p, t, g, bm, he, hm1⟩
  · exact absurd HZ.out h2
  subst he
  have H1 : Hid (Mb w w1 p t g bm 3 0 (newS os) []) := Lib.hid (by
    exact ⟨⟨_, hm1, by simp⟩, ext_next hb1 (by repeat (with_reducible first | exact Below.refl _ _ | assumption | (refine ext_next (by assumption) ?_) | apply ext_alloc | apply ext_past | apply ext_drew | apply ext_drewN)), fun x hm => by cases hm⟩)
  clear hb1 hm1
  go_wp2_with fail
  clear el1 el2 el3
  go_loopg [7] l.length (fun gk s7 wr => ∃ k : Nat, s7 = .int .i64 k ∧ k + gk = l.length ∧ Hid (∃ s M, M ≤ k ∧ s.lk ∧ s.es.length = os.length ∧ Mb w wr p t g bm 3 M s []))
  case atStart => exact ⟨0, rfl, by omega, Lib.hid ⟨_, 0, Nat.le_refl _, lk_new os, by simp [newS], H1.out⟩⟩
  case round =>
    clear H1
    obtain ⟨k, rfl, hk, HQ⟩ := hrel
    obtain ⟨s, M, hM, hlk, hln, hT⟩ := HQ.out
    by_cases hlt : k < l.length
    · have hk60 : k < 60 := by have := HL.out.2; omega
      have ek : decide ((k : Int) < (l.length : Int)) = true := by simp; omega
      have ek2 : decide (k < l.length) = true := by simpa using hlt
      have hkl : (k : Int) < (l.length : Int) := by omega
      obtain ⟨b, off, rfl, hb, hc⟩ := HBB.out.at hlt
      obtain ⟨c0, c1, c2, c3, c4, c5, c6, c7⟩ := hc wr (hT.be.block b hb)
      have hbr : b < wr.heap.size := by have := hT.lts; omega
      have HKK := Lib.hid (And.intro hk (And.intro hM (And.intro hlt (And.intro hlk hln))))
      have HT := Lib.hid hT
      clear hM hlk hln hT hc HQ hk
      generalize atO l k = o at c0 c1 c2 c3 c4 c5 c6 c7
      go_upto_region 8 with (fail)
      obtain ⟨X8, hX8⟩ : ∃ X, X = wr.heap.size := ⟨_, rfl⟩
      obtain ⟨v8, hv8⟩ : ∃ x, x = wr.alloc o.obj := ⟨_, rfl⟩
      have H8 : Hid (Mb w v8 p t g bm 3 M s [(X8, o.obj)] ∧ (X8 ≠ p ∧ X8 ≠ t ∧ X8 ≠ g ∧ X8 ≠ bm) ∧ w.heap.size ≤ X8) := Lib.hid (by
        have h5 := HT.out.push o.obj
        have h6 := HT.out.lts
        rw [← hX8, ← hv8] at h5
        exact ⟨h5, ⟨by omega, by omega, by omega, by omega⟩, by omega⟩)
      unfold Op14.obj at hv8
      rw [← hv8, ← hX8]
      clear hv8 hX8 c0 c1 c2 c3 c4 c5 c6 c7 hbr
      go_wp2_with fail
      obtain ⟨X9, hX9⟩ : ∃ X, X = v8.heap.size := ⟨_, rfl⟩
      obtain ⟨v9, hv9⟩ : ∃ x, x = v8.alloc (.cells #[.int .i64 0, .bool false, .int .i64 0, .bool false, .int .i64 0, .bool false, .int .i64 0, .bool false, .int .i64 0, .bool false, .int .i64 0, .bool false, .int .i64 0, .bool false, .int .i64 0, .bool false, .int .i64 0, .bool false, .int .i64 0, .bool false, .int .i64 0, .bool false, .int .i64 0, .bool false, .int .i64 0, .bool false, .int .i64 0, .bool false, .int .i64 0, .bool false, .int .i64 0, .bool false] 73) := ⟨_, rfl⟩
      have H9 : Hid (Mb w v9 p t g bm 3 M s [(X9, .cells #[.int .i64 0, .bool false, .int .i64 0, .bool false, .int .i64 0, .bool false, .int .i64 0, .bool false, .int .i64 0, .bool false, .int .i64 0, .bool false, .int .i64 0, .bool false, .int .i64 0, .bool false, .int .i64 0, .bool false, .int .i64 0, .bool false, .int .i64 0, .bool false, .int .i64 0, .bool false, .int .i64 0, .bool false, .int .i64 0, .bool false, .int .i64 0, .bool false, .int .i64 0, .bool false] 73 (0, 0)), (X8, o.obj)] ∧ ((X9 ≠ p ∧ X9 ≠ t ∧ X9 ≠ g ∧ X9 ≠ bm) ∧ w.heap.size ≤ X9) ∧ X9 ≠ X8) := Lib.hid (by
        have h5 := H8.out.1.push (.cells #[.int .i64 0, .bool false, .int .i64 0, .bool false, .int .i64 0, .bool false, .int .i64 0, .bool false, .int .i64 0, .bool false, .int .i64 0, .bool false, .int .i64 0, .bool false, .int .i64 0, .bool false, .int .i64 0, .bool false, .int .i64 0, .bool false, .int .i64 0, .bool false, .int .i64 0, .bool false, .int .i64 0, .bool false, .int .i64 0, .bool false, .int .i64 0, .bool false, .int .i64 0, .bool false] 73 (0, 0))
        have h6 := H8.out.1.lts
        have h7 := lt_of (H8.out.1.bx (X8, o.obj) (by simp)).1
        rw [← hX9, ← hv9] at h5
        exact ⟨h5, ⟨⟨by omega, by omega, by omega, by omega⟩, by omega⟩, by dsimp only at h7; omega⟩)
      have HXX := Lib.hid (And.intro H8.out.2 H9.out.2)
      rw [← hv9, ← hX9]
      clear hv9 hX9
      go_loopg [10] os.length (fun gk s10 wr => ∃ j : Nat, s10 = .int .i64 j ∧ j + gk = os.length ∧ Hid (∃ arr, WaK arr s.es j ∧ Mb w wr p t g bm 3 M s [(X9, .cells arr 73 (0, 0)), (X8, o.obj)]))
      case atStart => exact ⟨0, rfl, by omega, Lib.hid ⟨_, ⟨rfl, fun j hj => absurd hj (Nat.not_lt_zero _)⟩, H9.out.1⟩⟩
      case round =>
        clear H8 H9
        obtain ⟨j, rfl, hj, HQ⟩ := hrel
        obtain ⟨arr, hwa, hT⟩ := HQ.out
        by_cases hjl : j < os.length
        · have ej : decide ((j : Int) < (os.length : Int)) = true := by simp; omega
          have ej2 : decide (j < os.length) = true := by simpa using hjl
          have hj16 : j < 16 := by have := HL.out.1; omega
          have HG := Lib.hid (hT.get (j : Int) (by have := HKK.out.2.2.2.2; omega))
          rw [Int.toNat_natCast] at HG
          obtain ⟨q0, pl⟩ := hT.cells
          have HA := Lib.hid (And.intro hwa hT)
          have HJ := Lib.hid (And.intro hj hjl)
          clear hwa hT HQ hj
          go_wp2_with fail
          refine HG.out.mono ?_
          rintro e y1 ⟨rfl, hb1⟩
          have H2 := Lib.hid (HA.out.2.ext hb1)
          have hx := (H2.out.bx (X9, .cells arr 73 (0, 0)) (by simp)).1
          obtain ⟨-, ⟨v0, d1⟩, d2, d3⟩ := was_at hx HA.out.1.1 (i := j * 2) (by omega)
          obtain ⟨-, ⟨v1, f1⟩, f2, -⟩ := was_at hx HA.out.1.1 (i := j * 2 + 1) (by omega)
          obtain ⟨-, ⟨v2, g1⟩, g2, -⟩ := was_at (Joins.block_setCell (i := j * 2) hx (.int .i64 (atE s.es j).1)) (by simpa using HA.out.1.1) (i := j * 2 + 1) (by omega)
          clear hx hb1 HG q0 pl
          go_wp2_with fail
          go_roundg (os.length - (j + 1))
          case measure => have := HJ.out; omega
          case rel => exact ⟨j + 1, by go_num, by have := HJ.out; omega, Lib.hid ⟨_, HA.out.1.next hj16, H2.out.put HXX.out.2.1 (by intro x hx; obtain rfl := List.mem_singleton.1 hx; exact fun e => HXX.out.2.2 e.symm) _ _ _ _⟩⟩
        · have ej : decide ((j : Int) < (os.length : Int)) = false := by simp; omega
          have ej2 : decide (j < os.length) = false := by simpa using hjl
          obtain ejn : j = os.length := by omega
          subst ejn
          have HA := Lib.hid (And.intro hwa hT)
          clear hwa hT HQ hj hjl HT
          obtain ⟨c0, c1, c2, c3, c4, c5, c6, c7, cl⟩ := op_at (HA.out.2.bx (X8, o.obj) (by simp)).1
          go_upto_block 4 with (fail)
          go_cut [11, 12, 13] from 70 to 105 (fun s11 s12 s13 wc => ∃ f tn th s', s11 = .int .i64 tn ∧ s12 = .int .i64 th ∧ s13 = .int .i64 f ∧ Hid (stepL s o.k o.a o.g o.c = (f, tn, th, s') ∧ ∃ M', M' ≤ M + 1 ∧ Mb w wc p t g bm 3 M' s' [(X9, .cells arr 73 (0, 0)), (X8, o.obj)]))
          case first =>
            by_cases h0 : o.k = 0
            · have e0 : (o.k == 0) = true := by simpa using h0
              have HC := Lib.hid (HA.out.2.call (by have := HKK.out.2.1; have := HL.out.2; have := HKK.out.2.2.1; omega) o.a)
              have HS : Hid (stepL s o.k o.a o.g o.c = ((s.call 3 o.a).1, o.a.gr, 0, (s.call 3 o.a).2)) := Lib.hid (by unfold stepL; rw [if_pos h0])
              unfold Ak.val at HC
              clear h0
              go_wp2_with fail
              refine HC.out.mono ?_
              rintro e y1 ⟨rfl, h1⟩
              have H2 := Lib.hid h1
              clear h1 HC c0 c1 c2 c3 c4 c5 c6 c7 cl
              obtain ⟨c0, c1, c2, c3, c4, c5, c6, c7, cl⟩ := op_at (H2.out.bx (X8, o.obj) (by simp)).1
              go_wp2_with fail
              go_meet
              exact ⟨_, _, _, _, rfl, rfl, rfl, Lib.hid ⟨HS.out, _, Nat.le_refl _, H2.out⟩⟩
            have e0 : (o.k == 0) = false := by simpa using h0
            by_cases h1 : o.k = 1
            · have e1 : (o.k == 1) = true := by simpa using h1
              have HC := Lib.hid (HA.out.2.drop (by have := HKK.out.2.1; have := HL.out.2; have := HKK.out.2.2.1; omega) o.g o.c)
              have HS : Hid (stepL s o.k o.a o.g o.c = ((s.drop 3 o.g o.c).2.1, -1, 0, (s.drop 3 o.g o.c).2.2)) := Lib.hid (by unfold stepL; rw [if_neg h0, if_pos h1])
              clear h0 h1
              go_wp2_with fail
              refine HC.out.mono ?_
              rintro e y1 ⟨rfl, h1⟩
              have H2 := Lib.hid h1
              clear h1 HC c0 c1 c2 c3 c4 c5 c6 c7 cl
              go_wp2_with fail
              go_meet
              exact ⟨_, _, _, _, rfl, rfl, rfl, Lib.hid ⟨HS.out, _, Nat.le_refl _, H2.out⟩⟩
            · have e1 : (o.k == 1) = false := by simpa using h1
              have HS : Hid (stepL s o.k o.a o.g o.c = ((s.swept o.g).2.1, o.g, (s.swept o.g).1.th, (s.swept o.g).2.2)) := Lib.hid (by unfold stepL; rw [if_neg h0, if_neg h1])
              clear h0 h1
              obtain ⟨X7, hX7⟩ : ∃ X, X = wr.heap.size := ⟨_, rfl⟩
              obtain ⟨v7, hv7⟩ : ∃ x, x = wr.alloc Td.zero.obj := ⟨_, rfl⟩
              have H7 : Hid (Mb w v7 p t g bm 3 M s [(X7, Td.zero.obj), (X9, .cells arr 73 (0, 0)), (X8, o.obj)] ∧ ((X7 ≠ p ∧ X7 ≠ t ∧ X7 ≠ g ∧ X7 ≠ bm) ∧ w.heap.size ≤ X7) ∧ X7 ≠ X9 ∧ X7 ≠ X8) := Lib.hid (by
                have h5 := HA.out.2.push Td.zero.obj
                have h6 := HA.out.2.lts
                have h7 := lt_of (HA.out.2.bx (X8, o.obj) (by simp)).1
                have h8 := lt_of (HA.out.2.bx (X9, .cells arr 73 (0, 0)) (by simp)).1
                rw [← hX7, ← hv7] at h5
                exact ⟨h5, ⟨⟨by omega, by omega, by omega, by omega⟩, by omega⟩, by dsimp only at h8; omega, by dsimp only at h7; omega⟩)
              have HC := Lib.hid (H7.out.1.swept o.g)
              obtain ⟨x, hx⟩ : ∃ x, x = (s.swept o.g).1 := ⟨_, rfl⟩
              rw [← hx] at HC HS
              unfold Td.val at HC
              unfold Td.zero Td.obj at hv7
              dsimp only at hv7
              clear hx c0 c1 c2 c3 c4 c5 c6 c7 cl
              obtain ⟨c0, c1, c2, c3, c4, c5, c6, c7, cl⟩ := op_at (H7.out.1.bx (X8, o.obj) (by simp)).1
              rw [hv7] at c0 c1 c2 c3 c4 c5 c6 c7 cl
              obtain ⟨k0, k1, k2, k3, k4, k5, k6, k7, kl⟩ := op_at (HA.out.2.bx (X8, o.obj) (by simp)).1
              go_wp2_with fail
              rw [← hv7, ← hX7]
              clear hv7 hX7 c0 c1 c2 c3 c4 c5 c6 c7 cl k0 k1 k2 k3 k4 k5 k6 k7 kl
              refine HC.out.mono ?_
              rintro e y1 ⟨rfl, h1⟩
              have H2 := Lib.hid h1
              clear h1 HC
              have hz := (H2.out.bx (X7, Td.zero.obj) (by simp)).1
              obtain ⟨z0, z1, z2, z3, z4, z5, z6, zl⟩ := told_at (X := X7) (x := Td.zero) hz
              have zf : ∀ i, y1.frozen? ⟨X7, i, none⟩ = false := fun i => by
                have hz2 := hz
                unfold Td.obj at hz2
                dsimp only at hz2
                simp [World.frozen?, hz2]
              go_upto_region 19 with (fail)
              clear z0 z1 z2 z3 z4 z5 z6 zl zf
              obtain ⟨v6, hv6⟩ : ∃ x', x' = ((((((y1.setCell ⟨X7, 0, none⟩ (.int .i64 x.a.co)).setCell ⟨X7, 1, none⟩ (.int .i64 x.a.wo)).setCell ⟨X7, 2, none⟩ (.int .i64 x.a.ca)).setCell ⟨X7, 3, none⟩ (.int .i64 x.a.gr)).setCell ⟨X7, 4, none⟩ (.int .i64 x.a.to)).setCell ⟨X7, 5, none⟩ (.int .i64 x.th)).setCell ⟨X7, 6, none⟩ (.bool x.sc) := ⟨_, rfl⟩
              rw [← hv6]
              have H3 : Hid (Mb w v6 p t g bm 3 M (s.swept o.g).2.2 [(X9, .cells arr 73 (0, 0)), (X8, o.obj)]) := Lib.hid (by
                have hzz := H7.out.2
                refine (H2.out.sub (bs' := [(X9, .cells arr 73 (0, 0)), (X8, o.obj)]) (by simp)).off (X := X7) ?_ ?_ hzz.1.1 ?_ ?_
                · rw [hv6]; simp
                · intro q hq
                  rw [hv6]
                  iterate 7 rw [Below.heap_setCell _ _ _ _ (by simpa using hq)]
                · intro y hy
                  rcases List.mem_cons.1 hy with rfl | hy
                  · exact fun e => hzz.2.1 e.symm
                  · obtain rfl := List.mem_singleton.1 hy
                    exact fun e => hzz.2.2 e.symm
                · rw [hv6]
                  exact (((((((H2.out.be).setCell (p := ⟨X7, 0, none⟩) hzz.1.2 _).setCell (p := ⟨X7, 1, none⟩) hzz.1.2 _).setCell (p := ⟨X7, 2, none⟩) hzz.1.2 _).setCell (p := ⟨X7, 3, none⟩) hzz.1.2 _).setCell (p := ⟨X7, 4, none⟩) hzz.1.2 _).setCell (p := ⟨X7, 5, none⟩) hzz.1.2 _).setCell (p := ⟨X7, 6, none⟩) hzz.1.2 _)
              have z5 : v6.cell? ⟨X7, 5, none⟩ = some (.int .i64 x.th) := by
                have h0 := Joins.block_setCell (i := 0) hz (.int .i64 x.a.co)
                have h1 := Joins.block_setCell (i := 1) h0 (.int .i64 x.a.wo)
                have h2 := Joins.block_setCell (i := 2) h1 (.int .i64 x.a.ca)
                have h3 := Joins.block_setCell (i := 3) h2 (.int .i64 x.a.gr)
                have h4 := Joins.block_setCell (i := 4) h3 (.int .i64 x.a.to)
                have h5 := Joins.block_setCell (i := 5) h4 (.int .i64 x.th)
                have h6 := Joins.block_setCell (i := 6) h5 (.bool x.sc)
                rw [hv6]
                simp [World.cell?, h6]
              clear hv6 hz
              obtain ⟨c0, c1, c2, c3, c4, c5, c6, c7, cl⟩ := op_at (H3.out.bx (X8, o.obj) (by simp)).1
              go_wp2_with fail
              go_meet
              exact ⟨_, _, _, _, rfl, rfl, rfl, Lib.hid ⟨HS.out, _, Nat.le_succ _, H3.out⟩⟩
          case rest =>
            obtain ⟨f, tn, th, s', rfl, rfl, rfl, HR⟩ := hcut
            obtain ⟨tn2, htn2⟩ : ∃ x, x = if f = 0 then tn else -1 := ⟨_, rfl⟩
            have law := step_law HKK.out.2.2.2.1 o.k o.a o.g o.c tn2 (by rw [HR.out.1]; exact htn2)
            rw [HR.out.1] at law
            dsimp only at law
            obtain ⟨l1, l2, l3⟩ := law
            have HLW := Lib.hid (And.intro l1 (And.intro l2 l3))
            have HTN := Lib.hid htn2
            clear c0 c1 c2 c3 c4 c5 c6 c7 cl l1 l2 l3 htn2
            go_upto_if 107 with (fail)
            go_cut [11] from 106 to 107 (fun s11 wc => s11 = .int .i64 tn2 ∧ Hid (∃ M', M' ≤ M + 1 ∧ Mb w wc p t g bm 3 M' s' [(X9, .cells arr 73 (0, 0)), (X8, o.obj)]))
            case first =>
              by_cases hf : f = 0
              · have ef : (f != 0) = false := by simpa using hf
                have et : tn2 = tn := by rw [HTN.out, if_pos hf]
                go_wp2_with fail
                go_meet
                exact ⟨by rw [et], Lib.hid HR.out.2⟩
              · have ef : (f != 0) = true := by simpa using hf
                have et : tn2 = -1 := by rw [HTN.out, if_neg hf]
                go_wp2_with fail
                go_meet
                exact ⟨by rw [et], Lib.hid HR.out.2⟩
            case rest =>
              obtain ⟨rfl, HM⟩ := hcut
              obtain ⟨M', hM', hT'⟩ := HM.out
              have HT' := Lib.hid (And.intro hM' hT')
              clear hM' hT' HM HR HTN
              go_step
              go_wp2_with fail
              go_loopg [15] os.length (fun gk s15 wr => ∃ i : Nat, s15 = .int .i64 i ∧ i + gk = os.length ∧ Hid (Below wc.heap.size wc wr))
              case atStart => exact ⟨0, rfl, by omega, Lib.hid (Below.refl _ _)⟩
              case round =>
                obtain ⟨i, rfl, hi, HQ⟩ := hrel
                by_cases hil : i < os.length
                · have ei : decide ((i : Int) < (os.length : Int)) = true := by simp; omega
                  have ei2 : decide (i < os.length) = true := by simpa using hil
                  have hi16 : i < 16 := by have := HL.out.1; omega
                  have hT := HT'.out.2.ext HQ.out
                  have hls : i < s'.es.length := by have := HKK.out.2.2.2.2; have := HLW.out.1; omega
                  obtain ⟨eo, el, hen⟩ : ∃ eo el, atE s'.es i = (eo, el) := ⟨_, _, rfl⟩
                  have hph := lk_ph hT.ok HLW.out.2.1 hls
                  rw [hen] at hph
                  dsimp only at hph
                  obtain ⟨ph, hphv⟩ : ∃ ph, ph = (ruO (s'.F (i : Int))).ph := ⟨_, rfl⟩
                  rw [← hphv] at hph
                  have eph : (ph != 0) = el := hph.symm
                  have HG := Lib.hid (hT.get (i : Int) (by omega))
                  rw [Int.toNat_natCast, hen] at HG
                  dsimp only at HG
                  obtain ⟨q0, pl⟩ := hT.cells
                  have HT2 := Lib.hid hT
                  have HEN := Lib.hid (And.intro hen hphv)
                  have HI := Lib.hid (And.intro hi hil)
                  clear hT hls hen hph hphv hi
                  go_wp2_with fail
                  refine HG.out.mono ?_
                  rintro e y1 ⟨rfl, hb1⟩
                  have H2 := Lib.hid (HT2.out.ext hb1)
                  have HB1 := Lib.hid (ext_trans HQ.out hb1)
                  clear hb1 HG q0 pl
                  go_wp2_with fail
                  obtain ⟨E1, hE1⟩ : ∃ X, X = y1.heap.size := ⟨_, rfl⟩
                  obtain ⟨v1, hv1⟩ : ∃ x, x = y1.alloc (.cells #[.int .i64 eo, .bool el] 55) := ⟨_, rfl⟩
                  have h5 := H2.out.push (.cells #[.int .i64 eo, .bool el] 55 (0, 0))
                  rw [← hE1, ← hv1] at h5
                  have H3 := Lib.hid h5
                  have HB2 : Hid (Below wc.heap.size wc v1) := Lib.hid (by rw [hv1]; exact ext_trans HB1.out (ext_alloc _ (Below.refl _ _)))
                  rw [← hv1, ← hE1]
                  clear hv1 hE1 h5
                  have QH := Lib.hid (fun (W : World) (hb : Below v1.heap.size v1 W) => show (fun (w' : World) => w'.cell? ⟨E1, 1, none⟩ = some (.bool el)) W from (ent_at ((H3.out.ext hb).bx (E1, .cells #[.int .i64 eo, .bool el] 55 (0, 0)) (by simp)).1).2.1)
                  have HPH : Hid (∀ W : World, Below v1.heap.size v1 W → Calls Try.prog 33 #[.pointer (some ⟨p, 0, none⟩), .int .i64 (i : Int)] W fun e w' => e = .returned (.int .i64 ph) ∧ Below W.heap.size W w') := Lib.hid (fun W hb => ((H3.out.ext hb).phase (i : Int) (wf_small (by omega) (by omega))).mono fun e w' h => ⟨by rw [h.1, HEN.out.2], by rw [h.2]; exact Below.refl _ _⟩)
                  go_cut [129] from 123 to 129 (fun s129 wx => s129 = .bool false ∧ Hid (Below v1.heap.size v1 wx))
                  case first =>
                    have QQ := QH.out v1.drew (ext_drew (Below.refl _ _))
                    go_region_held3 (fun w' => w'.cell? ⟨E1, 1, none⟩ = some (.bool el))
                      (first | exact QQ | exact QH.out _ (by repeat (with_reducible first | exact Below.refl _ _ | assumption | (refine ext_next (by assumption) ?_) | apply ext_alloc | apply ext_past | apply ext_drew | apply ext_drewN | (refine ext_set ?_ (by first | exact Nat.le_refl _ | (simp; done))))))
                      (first | (go_at_call 33; refine (HPH.out _ (by repeat (with_reducible first | exact Below.refl _ _ | assumption | (refine ext_next (by assumption) ?_) | apply ext_alloc | apply ext_past | apply ext_drew | apply ext_drewN))).mono ?_; rintro e w3 ⟨rfl, hb2⟩; have QQ := QH.out w3 (ext_next hb2 (by repeat (with_reducible first | exact Below.refl _ _ | assumption | (refine ext_next (by assumption) ?_) | apply ext_alloc | apply ext_past | apply ext_drew | apply ext_drewN)))))
                    all_goals (try go_wp2_with fail)
                    all_goals go_meet
                    all_goals exact ⟨by first | rfl | simp [eph], Lib.hid (by repeat (with_reducible first | exact Below.refl _ _ | assumption | (refine ext_next (by assumption) ?_) | apply ext_alloc | apply ext_past | apply ext_drew | apply ext_drewN | (refine ext_set ?_ (by first | exact Nat.le_refl _ | (simp; done)))))⟩
                  case rest =>
                    obtain ⟨rfl, HB⟩ := hcut
                    have H4 := Lib.hid (H3.out.ext HB.out)
                    have HB3 := Lib.hid (ext_trans HB2.out HB.out)
                    clear QH HPH H3 H2 HB HB1 HB2 HT2
                    obtain ⟨e0, e1, e2, e3⟩ := ent_at (H4.out.bx (E1, .cells #[.int .i64 eo, .bool el] 55 (0, 0)) (by simp)).1
                    obtain ⟨c0, c1, c2, c3, c4, c5, c6, c7, cl⟩ := op_at (H4.out.bx (X8, o.obj) (by simp)).1
                    obtain ⟨wo, wl, hwe⟩ : ∃ wo wl, atE s.es i = (wo, wl) := ⟨_, _, rfl⟩
                    have hx9 := (H4.out.bx (X9, .cells arr 73 (0, 0)) (by simp)).1
                    obtain ⟨a0, -, a1, a2⟩ := was_at hx9 HA.out.1.1 (i := i * 2) (by omega)
                    obtain ⟨b0, -, b1, -⟩ := was_at hx9 HA.out.1.1 (i := i * 2 + 1) (by omega)
                    rw [(HA.out.1.2 i hil).1, hwe] at a0
                    rw [(HA.out.1.2 i hil).2, hwe] at b0
                    dsimp only at a0 b0
                    have law := HLW.out.2.2 i (by have := HKK.out.2.2.2.2; omega)
                    rw [HEN.out.1, hwe] at law
                    dsimp only at law
                    have hne1 : ¬ E1 = wc.heap.size := by omega
                    have hne2 : ¬ wc.heap.size = E1 := by omega
                    have HNX := Lib.hid hwe
                    clear hx9 hwe HEN
                    by_cases hkt : (i : Int) = tn2
                    · have et : ((i : Int) == tn2) = true := by simpa using hkt
                      by_cases h0 : o.k = 0
                      · have eo0 : (o.k == 0) = true := by simpa using h0
                        rw [if_pos ⟨hkt, h0⟩] at law
                        have q1 : eo = wo := congrArg Prod.fst law
                        have q2 : el = true := congrArg Prod.snd law
                        rw [q1] at e0
                        rw [q2] at e1
                        have hq := fun wx o => neqEn wx o true
                        clear law hkt h0 eph q1 q2
                        go_step
                        go_wp2_with fail
                        go_roundg (os.length - (i + 1))
                        case measure => have := HI.out; omega
                        case rel => exact ⟨i + 1, by go_num, by have := HI.out; omega, Lib.hid (ext_trans HB3.out (by repeat (with_reducible first | exact Below.refl _ _ | assumption | (refine ext_next (by assumption) ?_) | apply ext_alloc | apply ext_past | apply ext_drew | apply ext_drewN | (refine ext_set ?_ (by first | exact Nat.le_refl _ | (simp; done))))))⟩
                      · have eo0 : (o.k == 0) = false := by simpa using h0
                        rw [if_neg (fun h => h0 h.2), if_pos hkt] at law
                        have q1 : eo = th := congrArg Prod.fst law
                        have q2 : el = false := congrArg Prod.snd law
                        rw [q1] at e0
                        rw [q2] at e1
                        have hq := fun wx o => neqEn wx o false
                        clear law hkt h0 eph q1 q2
                        go_step
                        go_wp2_with fail
                        go_roundg (os.length - (i + 1))
                        case measure => have := HI.out; omega
                        case rel => exact ⟨i + 1, by go_num, by have := HI.out; omega, Lib.hid (ext_trans HB3.out (by repeat (with_reducible first | exact Below.refl _ _ | assumption | (refine ext_next (by assumption) ?_) | apply ext_alloc | apply ext_past | apply ext_drew | apply ext_drewN | (refine ext_set ?_ (by first | exact Nat.le_refl _ | (simp; done))))))⟩
                    · have et : ((i : Int) == tn2) = false := by simpa using hkt
                      rw [if_neg (fun h => hkt h.1), if_neg hkt] at law
                      have q1 : eo = wo := congrArg Prod.fst law
                      have q2 : el = wl := congrArg Prod.snd law
                      rw [q1] at e0
                      rw [q2] at e1
                      have hq := fun wx o q => neqEn wx o q
                      clear law hkt eph q1 q2
                      go_step
                      go_wp2_with fail
                      go_roundg (os.length - (i + 1))
                      case measure => have := HI.out; omega
                      case rel => exact ⟨i + 1, by go_num, by have := HI.out; omega, Lib.hid (ext_trans HB3.out (by repeat (with_reducible first | exact Below.refl _ _ | assumption | (refine ext_next (by assumption) ?_) | apply ext_alloc | apply ext_past | apply ext_drew | apply ext_drewN | (refine ext_set ?_ (by first | exact Nat.le_refl _ | (simp; done))))))⟩
                · have ei : decide ((i : Int) < (os.length : Int)) = false := by simp; omega
                  have ei2 : decide (i < os.length) = false := by simpa using hil
                  have HE := Lib.hid (And.intro (HT'.out.2.ext HQ.out) HT'.out.1)
                  clear hi hil
                  go_wp2_with fail
                  go_roundg (l.length - (k + 1))
                  case measure => have := HKK.out.1; have := HKK.out.2.2.1; omega
                  case rel => exact ⟨k + 1, by go_num, by have := HKK.out.1; have := HKK.out.2.2.1; omega, Lib.hid ⟨s', M', by have := HE.out.2; have := HKK.out.2.1; omega, HLW.out.2.1, by rw [HLW.out.1]; exact HKK.out.2.2.2.2, HE.out.1.sub (by simp)⟩⟩
    · have ek : decide ((k : Int) < (l.length : Int)) = false := by simp; omega
      have ek2 : decide (k < l.length) = false := by simpa using hlt
      have HBE := Lib.hid hT.be
      clear hT HQ hk hlt hM hlk hln
      go_wp2_with fail
      refine (awake14 _).mono ?_
      rintro e y ⟨rfl, hy⟩
      go_wp2_with fail
      go_ret
      exact ⟨rfl, ext_trans HBE.out hy⟩
theorem monitorlocks (A : Option Addr) (os : List Int) (cap : Nat) (B : Option Addr) (l : List Op14) (cap' : Nat) (w : World) (hA : SlI w A os) (hB : SlO w B l) (_hm : l.length ≤ maxLen) :
    Calls Try.prog 7 #[.slice A os.length cap, .slice B l.length cap'] w fun e w' => e = .returned (.bool true) ∧ Below w.heap.size w w' := by
  by_cases h : newM 3 os = 0
  · by_cases hl : 60 < l.length
    · exact locks_long hA h hl
    · exact locks_yes hA hB h hl
  · exact locks_no hA h

end Go.Proofs.Ytjggnhcdnfmmeaa
