/- What this text holds: which lists of calls are few, and a kind's lane, as the statements of layer 5 ask them; the example. Condition: the tables of kinds and of limits hold what their initialisers lay. -/
import Derived.Test.YtkfnjpmigifomaaDoorFbX
import Derived.Test.YtkfnjpmigifomaaDoorOpen05
import Derived.Test.YtkfnjpmigifomaaDoorMay01
namespace Go.Proofs.YtkfnjpmigifomaaDoor
open Go.RowKit

def fewL5 (l : List Op5) : Bool := l.all fun x => decide (x.ys.length ≤ 20)
def few5 (l : List Op5) : Bool := fewL5 l && decide (l.length ≤ 40)
theorem atP_get {l : List Op5} {i : Nat} (h : i < l.length) : atP l i = l[i] := by simp [atP, h]
theorem fewL5_take {l : List Op5} {k : Nat} (hk : k < l.length) : fewL5 (l.take (k + 1)) = (fewL5 (l.take k) && decide ((atP l k).ys.length ≤ 20)) := by
  unfold fewL5
  rw [List.take_succ_eq_append_getElem hk, atP_get hk, List.all_append]
  simp only [List.all_cons, List.all_nil, Bool.and_true]
theorem fewL5_no {l : List Op5} {k : Nat} (hk : k < l.length) (h : decide ((atP l k).ys.length ≤ 20) = false) : fewL5 l = false := by
  have e : l = l.take (k + 1) ++ l.drop (k + 1) := (List.take_append_drop _ _).symm
  have h2 : fewL5 (l.take (k + 1)) = false := by rw [fewL5_take hk, h]; simp
  rw [e]
  unfold fewL5 at h2 ⊢
  rw [List.all_append, h2]
  rfl
theorem few5_len {l : List Op5} (h : few5 l = true) : l.length ≤ 40 ∧ ∀ i, i < l.length → (atP l i).ys.length ≤ 20 := by
  unfold few5 at h
  simp only [Bool.and_eq_true, decide_eq_true_eq] at h
  refine ⟨h.2, fun i hi => ?_⟩
  have := List.all_eq_true.1 h.1 (atP l i) (by rw [atP_get hi]; exact List.getElem_mem hi)
  simpa using this
theorem SlP.ext {w w' : World} {A : Option Addr} {l : List Op5} (h : SlP w A l) (hb : Below w.heap.size w w') : SlP w' A l := by
  refine ⟨fun h0 => ?_, fun i hi => ⟨((h.notes i hi).1).ext hb, (h.notes i hi).2⟩⟩
  obtain ⟨b, off, hA, hl, hc⟩ := h.cells h0
  exact ⟨b, off, hA, Nat.lt_of_lt_of_le hl hb.size, fun i hi j u hu => (hb.cell (p := ⟨b, off + i * 5 + j, none⟩) hl).trans (hc i hi j u hu)⟩
set_option maxRecDepth 100000 in
set_option maxHeartbeats 4000000 in
theorem few5_any (A : Option Addr) (cap : Nat) (l : List Op5) (w : World) (hA : SlP w A l) (hm : l.length ≤ maxLen) :
    Calls Tryd.prog 29 #[.slice A l.length cap] w fun e w' => e = .returned (.bool (few5 l)) ∧ w' = w := by
  have HA := Lib.hid hA
  have HM := Lib.hid hm
  clear hA hm
  go_enter Tryd.func29, Tryd.ntmps29
  go_wp2_with fail
  go_loopg [3] l.length (fun g s3 wr => ∃ k : Nat, s3 = .int .i64 k ∧ k + g = l.length ∧ Hid (fewL5 (l.take k) = true) ∧ wr = w)
  case atStart => exact ⟨0, rfl, by omega, Lib.hid rfl, rfl⟩
  case round =>
    obtain ⟨k, rfl, hk, HT, rfl⟩ := hrel
    by_cases hlt : k < l.length
    · have ek : decide ((k : Int) < (l.length : Int)) = true := by simp; omega
      have ek2 : decide (k < l.length) = true := by simpa using hlt
      obtain ⟨b, off, hAA, hbl, hcs⟩ := (HA.out.cells (by omega))
      subst hAA
      have y4 : wr.cell? ⟨b, off + k * 5 + 4, none⟩ = _ := hcs k hlt 4 _ rfl
      have hkl : (k : Int) < (l.length : Int) := by omega
      have hmx : (l.length : Int) ≤ 9223372036854775807 := by have := HM.out; unfold maxLen at this; omega
      have HLT := Lib.hid (And.intro hk hlt)
      have HTK := Lib.hid (fewL5_take hlt)
      have HNO := Lib.hid (fewL5_no hlt)
      clear hcs hk hlt
      generalize hpn : (atP l k).ys.length = pn at *
      clear hpn
      by_cases h60 : pn ≤ 20
      · have e6 : decide ((pn : Int) > 20) = false := by simp; omega
        have HNX := Lib.hid (show fewL5 (l.take (k + 1)) = true by rw [HTK.out, HT.out]; simpa using h60)
        clear h60
        go_wp2_with fail
        go_roundg (l.length - (k + 1))
        case measure => have := HLT.out; omega
        case rel => exact ⟨k + 1, by go_num, by have := HLT.out; omega, HNX, rfl⟩
      · have e6 : decide ((pn : Int) > 20) = true := by simp; omega
        have HF := Lib.hid (show few5 l = false by unfold few5; rw [HNO.out (by simpa using h60)]; rfl)
        clear h60
        go_wp2_with fail
        go_ret
        exact ⟨ret_bool (by rw [HF.out]), rfl⟩
    · have ek : decide ((k : Int) < (l.length : Int)) = false := by simp; omega
      have ek2 : decide (k < l.length) = false := by simpa using hlt
      have HF := Lib.hid (show fewL5 l = true by have := HT.out; rwa [List.take_of_length_le (by omega)] at this)
      clear hk hlt
      go_wp2_with fail
      all_goals
        go_ret
        refine ⟨ret_bool ?_, rfl⟩
        unfold few5
        rw [HF.out]
        first
          | (simp; omega)
          | (rw [Bool.eq_iff_iff]; simp; omega)

/-- A kind's lane, as the document says it. -/
def laneR (k : Int) : Int := if 1 ≤ k ∧ k ≤ 13 then laneT k.toNat else -1
theorem laneR_of {k : Int} (h : kindB k = true) : laneR k = laneT k.toNat := by
  unfold laneR
  simp [kindB] at h
  rw [if_pos ⟨h.1, by omega⟩]
set_option maxRecDepth 100000 in
set_option maxHeartbeats 8000000 in
theorem rlane_any (k : Int) (w : World) : Calls Tryd.prog 34 #[.int .i64 k] w fun e w' => e = .returned (.int .i64 (laneR k)) ∧ Below w.heap.size w w' := by
  by_cases h1 : k < 1
  · have e1 : decide (k < 1) = true := by simpa using h1
    have HF := Lib.hid (show laneR k = -1 by unfold laneR; rw [if_neg (by omega)])
    clear h1
    go_enter Tryd.func34, Tryd.ntmps34
    go_wp2_with fail
    go_ret
    exact ⟨ret_int (by rw [HF.out]), Below.refl _ _⟩
  · have e1 : decide (k < 1) = false := by simpa using h1
    by_cases h2 : k > 13
    · have e2 : decide (k > 13) = true := by simpa using h2
      have HF := Lib.hid (show laneR k = -1 by unfold laneR; rw [if_neg (by omega)])
      clear h1 h2
      go_enter Tryd.func34, Tryd.ntmps34
      go_wp2_with fail
      go_ret
      exact ⟨ret_int (by rw [HF.out]), Below.refl _ _⟩
    · have h3 : k = 1 ∨ k = 2 ∨ k = 3 ∨ k = 4 ∨ k = 5 ∨ k = 6 ∨ k = 7 ∨ k = 8 ∨ k = 9 ∨ k = 10 ∨ k = 11 ∨ k = 12 ∨ k = 13 := by omega
      clear h1 h2 e1
      rcases h3 with rfl | rfl | rfl | rfl | rfl | rfl | rfl | rfl | rfl | rfl | rfl | rfl | rfl
      all_goals
        go_enter Tryd.func34, Tryd.ntmps34
        go_wp2_with fail
        go_ret
        exact ⟨ret_int (by decide), (by repeat (with_reducible first | exact Below.refl _ _ | assumption | (refine ext_next (by assumption) ?_) | apply ext_alloc | apply ext_past | apply ext_drew | apply ext_drewN))⟩

theorem slN_alloc (W : World) (xs : List Nt) (cs : Array Value) (t : TypeId) (g : Nat) (hg : g = W.heap.size) (hc : cs.toList = flatN xs) : SlN (W.alloc (.cells cs t)) (some ⟨g, 0, none⟩) xs := fun _ => by
  refine ⟨g, 0, rfl, by rw [hg]; simp, fun i hi j u hu => ?_⟩
  have hj : j < 9 := (List.getElem?_eq_some_iff.1 hu).1
  have h1 := flatN_at xs i j hi hj
  rw [hu, ← hc] at h1
  unfold World.cell?
  rw [hg, heap_alloc_new W]
  simpa using h1
def cfg5 : Cfg := ⟨2, 1, 1, 1, 1, 1, 1⟩
theorem cfg5_ok : cfg5.ok := by simp [cfg5, Cfg.ok, okAt]
def mk5 (k c : Int) : Nt := ⟨k, c, 0, 0, 0, 0, 0, false, 0⟩
def g5 : Nat → List Nt := addL (fun _ => []) [mk5 1 0, mk5 4 0]
theorem send5_0 : sendR cfg5 8 (fun _ => []) [mk5 1 0, mk5 4 0] = 0 := by decide
theorem send5_1 : sendR cfg5 8 g5 [mk5 2 0] = 11 := by decide
theorem send5_2 : sendR cfg5 8 g5 [mk5 2 1] = 0 := by decide
theorem len5 : (((List.range 8).map (addL g5 [mk5 2 1])).flatten.length : Int) = 3 := by decide
theorem room5_0 : cfg5.de - ((addL g5 [mk5 2 1] (1 * 4 + 0)).length : Int) = 0 := by decide
theorem room5_1 : cfg5.de - ((addL g5 [mk5 2 1] (1 * 4 + 1)).length : Int) = 1 := by decide
/-- A fabric of the call's own, and the two tables. -/
structure Fw (W w : World) (B p : Nat) (c : Cfg) (n : Nat) (P : Nat → Nat) (V : Nat → Value) (G : Nat → List Nt) : Prop where
  fa : Fa w B p c n P V G
  be : Below W.heap.size W w
  hB : W.heap.size ≤ B
  lo : B ≤ w.heap.size
theorem Fw.ext {W w w' : World} {B p : Nat} {c : Cfg} {n : Nat} {P : Nat → Nat} {V : Nat → Value} {G : Nat → List Nt} (h : Fw W w B p c n P V G) (hb : Below w.heap.size w w') : Fw W w' B p c n P V G :=
  ⟨h.fa.ext hb, ext_trans h.be hb, h.hB, Nat.le_trans h.lo hb.size⟩
theorem Fw.go {W w w' : World} {B p : Nat} {c : Cfg} {n : Nat} {P : Nat → Nat} {V V' : Nat → Value} {G G' : Nat → List Nt} (h : Fw W w B p c n P V G) (h1 : Fa w' B p c n P V' G') (h2 : Ft (FS n P V) w w') : Fw W w' B p c n P V' G' :=
  ⟨h1, h2.below h.be (fun _ hk => Nat.le_trans h.hB (h.fa.fs hk).1), h.hB, Nat.le_trans h.lo h2.size⟩
/-- Send, over the law's own world. -/
theorem Fw.send {W w : World} {B p : Nat} {c : Cfg} {n : Nat} {P : Nat → Nat} {V : Nat → Value} {G : Nat → List Nt} (h : Fw W w B p c n P V G) (hL : Lims W) (hK : Kinds W) (A : Option Addr) (cap : Nat) (xs : List Nt) (hx : SlN w A xs) (hA : ∀ a, A = some a → 0 < xs.length → ¬ FS n P V a.block) (hl : xs.length ≤ 20) :
    Calls Tryd.prog 32 #[.pointer (some ⟨p, 0, none⟩), .slice A xs.length cap] w fun e w' => e = .returned (.int .i64 (sendR c n G xs)) ∧ SendPost w B p c n P V G xs w' :=
  fsend_any h.fa h.lo (hL.ext h.be) (hK.ext h.be) ⟨Nat.lt_of_lt_of_le hL.lt h.hB, Nat.lt_of_lt_of_le hK.lt h.hB⟩ A cap xs hx hA hl
section
variable {W w : World} {B p : Nat} {c : Cfg} {n : Nat} {P : Nat → Nat} {V : Nat → Value} {G : Nat → List Nt}
theorem Fw.send_ok (h : Fw W w B p c n P V G) (hL : Lims W) (hK : Kinds W) (A : Option Addr) (cap : Nat) (xs : List Nt) (hx : SlN w A xs) (hA : ∀ a, A = some a → 0 < xs.length → ¬ FS n P V a.block) (hl : xs.length ≤ 20) (h0 : sendR c n G xs = 0) :
    Calls Tryd.prog 32 #[.pointer (some ⟨p, 0, none⟩), .slice A xs.length cap] w fun e w' => e = .returned (.int .i64 0) ∧ ∃ V', Fw W w' B p c n P V' (addL G xs) ∧ Ft (FS n P V) w w' ∧ ∀ q, FS n P V' q → FS n P V q ∨ w.heap.size ≤ q := by
  refine (h.send hL hK A cap xs hx hA hl).mono ?_
  rintro e w' ⟨he, hp⟩
  rcases hp with ⟨h1, _⟩ | ⟨_, V', h1, h2, h3⟩
  · exact absurd h0 h1
  · exact ⟨by rw [he, h0], V', h.go h1 h2, h2, h3⟩
theorem Fw.send_no (h : Fw W w B p c n P V G) (hL : Lims W) (hK : Kinds W) (A : Option Addr) (cap : Nat) (xs : List Nt) (hx : SlN w A xs) (hA : ∀ a, A = some a → 0 < xs.length → ¬ FS n P V a.block) (hl : xs.length ≤ 20) (r : Int) (h0 : sendR c n G xs = r) (hr : r ≠ 0) :
    Calls Tryd.prog 32 #[.pointer (some ⟨p, 0, none⟩), .slice A xs.length cap] w fun e w' => e = .returned (.int .i64 r) ∧ Below w.heap.size w w' := by
  refine (h.send hL hK A cap xs hx hA hl).mono ?_
  rintro e w' ⟨he, hp⟩
  rcases hp with ⟨_, h1⟩ | ⟨h1, _⟩
  · exact ⟨by rw [he, h0], h1⟩
  · exact absurd (h0.symm.trans h1) hr
theorem Fw.off (h : Fw W w B p c n P V G) (m : Nat) (a : Addr) (ha : some (⟨w.heap.size, 0, none⟩ : Addr) = some a) (_ : 0 < m) : ¬ FS n P V a.block := fun hk => by
  cases ha
  have := (h.fa.fs hk).2.1
  simp at this
end
set_option maxRecDepth 100000 in
set_option maxHeartbeats 8000000 in
theorem awake05 (w : World) (hL : Lims w) (hK : Kinds w) : Calls Tryd.prog 30 #[] w fun e w' => e = .returned (.bool true) ∧ Below w.heap.size w w' := by
  have HL := Lib.hid hL
  have HK := Lib.hid hK
  clear hL hK
  go_enter Tryd.func30, Tryd.ntmps30
  go_wp2_with fail
  refine (fnew_ok cfg5 cfg5_ok _ HL.out).mono ?_
  rintro e w1 ⟨p, n, P, rfl, hf, hb⟩
  obtain rfl : n = 8 := by have := hf.hn; simp [cfg5] at this; omega
  have H1 : Hid (Fw w w1 w.heap.size p cfg5 8 P (fun _ => .slice none 0 0) (fun _ => [])) := Lib.hid ⟨hf, hb, Nat.le_refl _, hb.size⟩
  clear hf hb
  go_wp2_with fail
  refine (Fw.send_ok (H1.out.ext (by repeat (with_reducible first | exact Below.refl _ _ | assumption | (refine ext_next (by assumption) ?_) | apply ext_alloc | apply ext_past | apply ext_drew | apply ext_drewN))) HL.out HK.out _ _ [mk5 1 0, mk5 4 0] (slN_alloc _ _ _ _ _ rfl rfl) (H1.out.off _) (by simp) send5_0).mono ?_
  rintro e w2 ⟨rfl, V2, hf2, _, _⟩
  have H2 : Hid (Fw w w2 w.heap.size p cfg5 8 P V2 g5) := Lib.hid hf2
  clear hf2
  go_wp2_with fail
  refine (Fw.send_no (H2.out.ext (by repeat (with_reducible first | exact Below.refl _ _ | assumption | (refine ext_next (by assumption) ?_) | apply ext_alloc | apply ext_past | apply ext_drew | apply ext_drewN))) HL.out HK.out _ _ [mk5 2 0] (slN_alloc _ _ _ _ _ rfl rfl) (H2.out.off _) (by simp) 11 send5_1 (by decide)).mono ?_
  rintro e w3 ⟨rfl, hb3⟩
  have H3 := Lib.hid ((H2.out.ext (ext_alloc (.cells #[.int .i64 2, .int .i64 0, .int .i64 0, .int .i64 0, .int .i64 0, .int .i64 0, .int .i64 0, .bool false, .int .i64 0] 74) (Below.refl _ _))).ext hb3)
  clear hb3
  go_wp2_with fail
  refine (Fw.send_ok (H3.out.ext (by repeat (with_reducible first | exact Below.refl _ _ | assumption | (refine ext_next (by assumption) ?_) | apply ext_alloc | apply ext_past | apply ext_drew | apply ext_drewN))) HL.out HK.out _ _ [mk5 2 1] (slN_alloc _ _ _ _ _ rfl rfl) (H3.out.off _) (by simp) send5_2).mono ?_
  rintro e w4 ⟨rfl, V4, hf4, _, _⟩
  have H4 := Lib.hid hf4
  have HLN := Lib.hid (flen_ok hf4.fa)
  rw [len5] at HLN
  clear hf4
  go_wp2_with fail
  refine HLN.out.mono ?_
  rintro e w5 ⟨rfl, hb5⟩
  have H5 := Lib.hid (H4.out.ext hb5)
  have HR0 := Lib.hid (froom_ok (i := 1) (k := 0) (H4.out.ext hb5).fa (by decide) (by decide))
  rw [room5_0] at HR0
  clear hb5 HLN
  go_wp2_with fail
  refine HR0.out.mono ?_
  rintro e w6 ⟨rfl, hb6⟩
  have H6 := Lib.hid (H5.out.ext hb6)
  have HR1 := Lib.hid (froom_ok (i := 1) (k := 1) (H5.out.ext hb6).fa (by decide) (by decide))
  rw [room5_1] at HR1
  clear hb6 HR0
  go_wp2_with fail
  refine HR1.out.mono ?_
  rintro e w7 ⟨rfl, hb7⟩
  have HB := Lib.hid (H6.out.ext hb7).be
  clear hb7
  go_wp2_with fail
  go_ret
  exact ⟨rfl, HB.out⟩

end Go.Proofs.YtkfnjpmigifomaaDoor
