/- What this text holds: what is gone through is a list, whatever the iterator. No condition. What this text holds: whatever hands out a list of notes: a lane, no lane, a fabric; Notes over it. No condition. What this text holds: same: a fabric and the document's fabric have the same notes. No condition. -/
import Derived.Test.YtkfnjpmigifomaaDoorFbA
import Derived.Test.YtkfnjpmigifomaaDoorRf05F
import Derived.Deep.RegionHeld3
namespace Go.Proofs.YtkfnjpmigifomaaDoor
open Go.RowKit Go.Shelf
attribute [local go_sem] Oper.semAt_some

/-- What a world held it holds still. -/
def KL (w W W' : World) : Prop := ∀ k, k < w.heap.size → W'.heap[k]? = W.heap[k]?
set_option maxRecDepth 100000 in
set_option maxHeartbeats 4000000 in
theorem notes_gen {gf : Nat} {lb : Array Value} {Kp : World → World → Prop} {xs : List Nt} {w : World} (eg : ∀ args w, (callFunc gf args).run Tryd.prog w = .ok (.enter gf args) w)
    (hseq : SeqRuns Fence.wide 5 Tryd.prog gf lb (fun x : Nt => #[x.out]) Kp (fun pre x => pre ++ [x] <+: xs) (fun ys => ys = xs) (fun pre => pre <+: xs) w)
    (hKt : ∀ {A B C : World}, Kp A B → Kp B C → Kp A C) (hKg : ∀ W W', KL w W W' → Kp W W') (A : Option Addr) (cap : Nat) (hA : SlN w A xs) (hx : xs.length ≤ 1000) :
    Calls Tryd.prog 42 #[.func (.func gf) #[] lb, .slice A xs.length cap] w fun e w' => e = .returned (.bool true) ∧ Below w.heap.size w w' := by
  have HA := Lib.hid hA
  have HQ := Lib.hid hseq
  have HKG := Lib.hid hKg
  clear hA hseq hKg
  refine (callsIn_wide (n := 6)).1 ?_
  have hro : Fence.wide.round = none := rfl
  refine callsIn_of_wp_marks Tryd.func42 rfl trivial ?_ hro
  simp only [Tryd.ntmps42, List.size_toArray, List.length_cons, List.length_nil, Nat.reduceAdd, Nat.reduceSub, Array.replicate_succ, Array.replicate_zero, List.push_toArray, List.append_toArray, List.nil_append, List.cons_append]
  have hq := nseq_nil
  gi_wp2_with fail
  obtain ⟨W0, hW0⟩ : ∃ W0, W0 = ((w.alloc (.cells #[.slice A xs.length cap] 69)).alloc (.cells #[.bool false] 4)).alloc (.cells #[.int .i64 0] 3) := ⟨_, rfl⟩
  rw [← hW0]
  have f0 : W0.heap[w.heap.size]? = some (.cells #[.slice A xs.length cap] 69 (0, 0)) := by rw [hW0]; exact alOld (alOld (alNew rfl))
  have f1 : W0.heap[w.heap.size + 1]? = some (.cells #[.bool false] 4 (0, 0)) := by rw [hW0]; exact alOld (alNew (by simp))
  have f2 : W0.heap[w.heap.size + 1 + 1]? = some (.cells #[.int .i64 0] 3 (0, 0)) := by rw [hW0]; exact alNew (by simp)
  have fs : W0.heap.size = w.heap.size + 3 := by rw [hW0]; simp
  have fB : Below w.heap.size w W0 := by rw [hW0]; exact (by repeat (with_reducible first | exact Below.refl _ _ | assumption | (refine ext_next (by assumption) ?_) | apply ext_alloc | apply ext_past | apply ext_drew | apply ext_drewN))
  clear hW0
  refine wpIn_rangeFunc_runsB W0.heap.size 6 BxN (fun x b W W' row hs hg hr => blk_held hs hg hr) hro (by omega) (gf := gf) (lb := lb) rfl trivial eg
    HQ.out (fun h k => hKt h k) (fun W l o o' hl ho hc hw => HKG.out _ _ (fun k hk => World.putObj_heap_other (by omega))) fB (fun _ => rfl)
    (fun pre W => (W.heap[w.heap.size]? = some (.cells #[.slice A xs.length cap] 69 (0, 0)) ∧ W.heap[w.heap.size + 1]? = some (.cells #[.bool false] 4 (0, 0)) ∧ W.heap[w.heap.size + 1 + 1]? = some (.cells #[.int .i64 pre.length] 3 (0, 0))) ∧ Below w.heap.size w W)
    (fun _ _ _ => False)
    (OwnFrom.and (fun s A B row hs hg hr => ⟨(hg.block _ (lt_of hs.1) (fun e => by have := (hr _ e.symm).1; omega)).trans hs.1, (hg.block _ (lt_of hs.2.1) (fun e => by have := (hr _ e.symm).1; omega)).trans hs.2.1, (hg.block _ (lt_of hs.2.2) (fun e => by have := (hr _ e.symm).1; omega)).trans hs.2.2⟩) (ownFrom_below (by omega) (by omega)))
    (fun _ _ _ _ _ hs _ _ => hs)
    ⟨⟨f0, f1, f2⟩, fB⟩ ?assign ?body ?done ?stop
  case assign =>
    rintro l pre x W K hok ⟨⟨b0, b1, b2⟩, hB⟩ hK
    gi_wp2
    unfold boxFrame at hK
    have hs := lt_of b2
    have h9 : ∀ X, Below W.heap.size W (W.alloc X) := fun X => (Below.refl _ W).alloc (Nat.le_refl _) X
    simpa using hK W.heap.size _ (by omega) (KA.of_below (h9 _)) (HKG.out _ _ (fun k hk => (h9 _).block k (by omega))) ⟨⟨alOld b0, alOld b1, alOld b2⟩, hB.alloc (by omega) _⟩ (alNew rfl)
  case body =>
    rintro l pre x Bx W hl hr ⟨⟨b0, b1, b2⟩, hB⟩ hBx bX hok
    have hlen : pre.length < xs.length := by have := hok.length_le; simp at this; omega
    obtain rfl := pre_only hok
    have HOK := Lib.hid hok
    have kl := cell_of b0
    have kr := cell_of b1
    have kn := cell_of b2
    have fr := free_of b1
    have fn := free_of b2
    have s2 := lt_of b2
    have s1 := lt_of b1
    have s0 := lt_of b0
    obtain ⟨p0, p1, p2, p3, p4, p5, p6, p7, p8⟩ := bX.cell
    have hXl := bX.lt
    obtain ⟨bb, off, rfl, hbb, hcs⟩ := HA.out (by omega)
    have hbB : bb < W.heap.size := Nat.lt_of_lt_of_le hbb hB.size
    have cx : ∀ jj u, (atN xs pre.length).cells[jj]? = some u → W.cell? ⟨bb, off + pre.length * 9 + jj, none⟩ = some u := fun jj u hu => (hB.cell (p := ⟨bb, off + pre.length * 9 + jj, none⟩) hbb).trans (hcs _ hlen jj u hu)
    have x0 : W.cell? ⟨bb, off + pre.length * 9, none⟩ = _ := cx 0 _ rfl
    have x1 := cx 1 _ rfl
    have x2 := cx 2 _ rfl
    have x3 := cx 3 _ rfl
    have x4 := cx 4 _ rfl
    have x5 := cx 5 _ rfl
    have x6 := cx 6 _ rfl
    have x7 := cx 7 _ rfl
    have x8 := cx 8 _ rfl
    have eg : decide (xs.length ≤ pre.length) = false := by simp; omega
    clear cx hcs hq hok
    unfold boxFrame
    have hq : ∀ wx, (binOp .neq 74 (atN xs pre.length).out (atN xs pre.length).out).run Tryd.prog wx = .ok (.bool false) wx := fun wx => by rw [neqN]; simp
    gi_wp2_with fail
    refine region_past_round (by kernel_rfl) (by kernel_rfl) (by kernel_rfl) ?_; (repeat (gi_big_quiet_step (fail))); refine wpQuietIn_nil ?_; rintro _ ⟨p, rfl⟩
    gi_wp2_with fail
    have hpb := p.below
    have oth : ∀ k, k < W.heap.size → k ≠ w.heap.size + 1 + 1 → (p.val.setCell ⟨w.heap.size + 1 + 1, 0, none⟩ (.int .i64 (pre.length + 1))).heap[k]? = W.heap[k]? := fun k h1 h2 => (Below.heap_setCell p.val _ _ k (by simpa using h2)).trans (hpb.block k h1)
    have own := set_of ((hpb.block _ s2).trans b2) (u := .int .i64 (pre.length + 1))
    have hsz := hpb.size
    exact ⟨(KA.of_below hpb).trans (KA.setCell _ _ _ (by simp; omega)), HKG.out _ _ (fun k hk => oth k (by omega) (by omega)), ⟨(oth _ s0 (by omega)).trans b0, (oth _ s1 (by omega)).trans b1, by simpa using own⟩, (hB.trans (hpb.mono hB.size)).setCell (p := ⟨w.heap.size + 1 + 1, 0, none⟩) (by simp; omega) _⟩
  case done =>
    rintro D ys W hD rfl ⟨⟨b0, b1, b2⟩, hB⟩ hK
    have kl := cell_of b0
    have kr := cell_of b1
    have kn := cell_of b2
    have fr := free_of b1
    have s2 := lt_of b2
    have s1 := lt_of b1
    have s0 := lt_of b0
    gi_wp2_with fail
    have hK' := (KeepsOthers.setCell W ⟨w.heap.size + 1, 0, none⟩ (.bool true)).same D _ hK rfl
    refine ⟨by simp, .inl ⟨_, _, rfl, run_takeDeferred hK', ?_⟩⟩
    have hc5 := cell_kept (World.cell?_setCell_same' W ⟨w.heap.size + 1, 0, none⟩ (.bool true) (by rw [kr]; rfl)) (grownBy_putObj' _ D (.deferred none)) (fun r e => by cases e; exact ⟨_, hK', rfl⟩)
    refine ⟨.bool true, ?_, rfl, (hB.setCell (p := ⟨w.heap.size + 1, 0, none⟩) (by simp) _).trans (belowK_b (w := w) (Nat.le_refl _) _ D _ _ (by omega) hK' rfl rfl)⟩
    simp [results, Tryd.f42, go_sem, hc5]
  case stop =>
    rintro D cc pre W hD _ h hK
    exact h.elim

end Go.Proofs.YtkfnjpmigifomaaDoor
namespace Go.Proofs.YtkfnjpmigifomaaDoor
open Go.RowKit Go.Shelf
attribute [local go_sem] Oper.semAt_some

/-- What lay in a range lies as it lay. -/
def KI (lo : Nat) (w w' : World) : Prop := ∀ k, lo ≤ k → k < w.heap.size → w'.heap[k]? = w.heap[k]?
theorem KI.of_below {lo : Nat} {w w' : World} (h : Below w.heap.size w w') : KI lo w w' := fun k _ hk => h.block k hk
/-- What hands out a list of notes; its blocks were laid from lo on. -/
def ItAt (lo : Nat) (w : World) (fv : Value) (xs : List Nt) : Prop :=
  (∃ b v, fv = .func (.func 111) #[] #[.pointer (some ⟨b, 0, none⟩)] ∧ NV w b v xs ∧ lo ≤ b ∧ ∀ g, v.ownBlock = some g → lo ≤ g) ∨
  (fv = .func (.func 108) #[] #[] ∧ xs = []) ∨
  (∃ q b v rs, fv = .func (.func 79) #[] #[.pointer (some ⟨q, 0, none⟩)] ∧ w.heap[q]? = some (.cells #[.func (.func 104) #[] #[.pointer (some ⟨b, 0, none⟩)]] 136 (0, 0)) ∧ lo ≤ q ∧ RV w b v rs ∧ flat rs = xs ∧ rs.length ≤ 16 ∧ (∀ r ∈ rs, r.xs.length ≤ 16) ∧ ∀ k, RK b v rs k → lo ≤ k)
theorem ItAt.keep {lo : Nat} {w w' : World} {fv : Value} {xs : List Nt} (h : ItAt lo w fv xs) (hk : KI lo w w') : ItAt lo w' fv xs := by
  rcases h with ⟨b, v, h1, h2, h3, h4⟩ | h | ⟨q, b, v, rs, h1, h2, h3, h4, h5, h6, h7, h8⟩
  · exact .inl ⟨b, v, h1, h2.keep ⟨hk b h3 h2.lt, fun g hg => hk g (h4 g hg) (h2.own.lt g hg).2⟩, h3, h4⟩
  · exact .inr (.inl h)
  · exact .inr (.inr ⟨q, b, v, rs, h1, (hk q h3 (lt_of h2)).trans h2, h3, h4.keep (fun k h9 => hk k (h8 k h9) (h4.lt h9)), h5, h6, h7, h8⟩)
theorem ItAt.ext {lo : Nat} {w w' : World} {fv : Value} {xs : List Nt} (h : ItAt lo w fv xs) (hb : Below w.heap.size w w') : ItAt lo w' fv xs := h.keep (KI.of_below hb)
theorem none_runs (n : Nat) (Kp : World → World → Prop) (w : World) :
    SeqRuns Fence.wide n Tryd.prog 108 #[] (fun x : Nt => #[x.out]) Kp (fun pre x => pre ++ [x] <+: []) (fun ys => ys = []) (fun pre => pre <+: []) w := fun l J Jx W _ _ _ _ _ h0 => by
  refine callsIn_of_wp Tryd.func108 rfl trivial ?_ rfl
  simp only [Tryd.ntmps108, List.size_toArray, List.length_cons, List.length_nil, Nat.reduceAdd, Nat.reduceSub, Array.replicate_succ, Array.replicate_zero, List.push_toArray, List.append_toArray, List.nil_append, List.cons_append]
  gi_wp2
  go_end0
  exact ⟨⟨_, rfl⟩, .inl h0⟩
/-- Notes over it. -/
theorem notes_it {lo : Nat} {w : World} {fv : Value} {xs : List Nt} (h : ItAt lo w fv xs) (A : Option Addr) (cap : Nat) (hA : SlN w A xs) (hx : xs.length ≤ 1000) :
    Calls Tryd.prog 42 #[fv, .slice A xs.length cap] w fun e w' => e = .returned (.bool true) ∧ Below w.heap.size w w' := by
  rcases h with ⟨b, v, rfl, h2, _, _⟩ | ⟨rfl, rfl⟩ | ⟨q, b, v, rs, rfl, h2, h3, h4, rfl, h6, h7, h8⟩
  · exact notes_yes b v xs A cap w h2 hA hx
  · exact notes_gen (enters_of Tryd.func108 (by kernel_rfl) rfl) (none_runs 5 (fun _ _ => True) w) (fun _ _ => trivial) (fun _ _ _ => trivial) A cap hA hx
  · exact notes_gen (enters_of Tryd.func79 (by kernel_rfl) rfl) (allF_runs 5 (by omega) q b v rs w h2 h4 (by omega) (fun r hr => by have := h7 r hr; omega)) (fun h k => h.trans k) (fun W W' hk k hr => hk k (h4.lt hr)) A cap hA hx
theorem lall_nil (w : World) : Calls Tryd.prog 102 #[.pointer none] w fun e w' => e = .returned (.func (.func 108) #[] #[]) ∧ w' = w := by
  go_enter Tryd.func102, Tryd.ntmps102
  go_wp2
  go_ret
  exact ⟨rfl, rfl⟩
section
variable {w : World} {B p : Nat} {c : Cfg} {n : Nat} {P : Nat → Nat} {V : Nat → Value} {G : Nat → List Nt} {xs : List Nt}
theorem flane_no (h : Fa w B p c n P V G) (x y : Int) (hx : x < 0 ∨ c.co ≤ x ∨ y < 0 ∨ 4 ≤ y) :
    Calls Tryd.prog 84 #[.pointer (some ⟨p, 0, none⟩), .int .i64 x, .int .i64 y] w fun e w' => e = .returned (.func (.func 108) #[] #[]) ∧ Below w.heap.size w w' := by
  have HF := Lib.hid (ffind_no h x y hx)
  clear h hx
  go_enter Tryd.func84, Tryd.ntmps84
  go_wp2_with fail
  refine HF.out.mono ?_
  rintro e w1 ⟨rfl, hw⟩
  subst hw
  go_wp2_with fail
  refine (lall_nil _).mono ?_
  rintro e w2 ⟨rfl, hw⟩
  subst hw
  go_wp2_with fail
  go_ret
  exact ⟨rfl, Below.refl _ _⟩
/-- Which lanes there are. -/
def inL (c : Cfg) (x y : Int) : Bool := decide (0 ≤ x) && decide (x < c.co) && decide (0 ≤ y) && decide (y < 4)
theorem inL_yes {x y : Int} (h : inL c x y = true) : ∃ i k : Nat, x = i ∧ y = k ∧ (i : Int) < c.co ∧ k < 4 := by
  simp only [inL, Bool.and_eq_true, decide_eq_true_eq] at h
  exact ⟨x.toNat, y.toNat, by omega, by omega, by omega, by omega⟩
theorem inL_no {x y : Int} (h : inL c x y = false) : x < 0 ∨ c.co ≤ x ∨ y < 0 ∨ 4 ≤ y := by
  rw [Bool.eq_false_iff] at h
  simp only [inL, ne_eq, Bool.and_eq_true, decide_eq_true_eq] at h
  omega
theorem flane_it (h : Fa w B p c n P V G) (ha : Al c n G xs) (x y : Int) :
    Calls Tryd.prog 84 #[.pointer (some ⟨p, 0, none⟩), .int .i64 x, .int .i64 y] w fun e w' => ∃ fv, e = .returned fv ∧ ItAt w.heap.size w' fv (ofN xs x y) ∧ Below w.heap.size w w' := by
  cases hi : inL c x y with
  | true =>
    obtain ⟨i, k, rfl, rfl, h1, h2⟩ := inL_yes hi
    have hn := h.hn
    rw [ha.of i k h2 (by omega)]
    refine (flane_ok h h1 h2).mono ?_
    rintro e w' ⟨b, v', rfl, hv, hb1, hb2, hb⟩
    exact ⟨_, rfl, .inl ⟨b, v', rfl, hv, hb1, hb2⟩, hb⟩
  | false =>
    rw [ha.of_no x y (inL_no hi)]
    refine (flane_no h x y (inL_no hi)).mono ?_
    rintro e w' ⟨rfl, hb⟩
    exact ⟨_, rfl, .inr (.inl ⟨rfl, rfl⟩), hb⟩
/-- How much room there is. -/
theorem froom_it (h : Fa w B p c n P V G) (ha : Al c n G xs) (x y : Int) :
    Calls Tryd.prog 71 #[.pointer (some ⟨p, 0, none⟩), .int .i64 x, .int .i64 y] w fun e w' => e = .returned (.int .i64 (if inL c x y then c.de - (ofN xs x y).length else 0)) ∧ Below w.heap.size w w' := by
  cases hi : inL c x y with
  | true =>
    obtain ⟨i, k, rfl, rfl, h1, h2⟩ := inL_yes hi
    have hn := h.hn
    rw [ha.of i k h2 (by omega)]
    exact froom_ok h h1 h2
  | false => exact froom_no h x y (inL_no hi)
theorem fall_it (h : Fa w B p c n P V G) (ha : Al c n G xs) :
    Calls Tryd.prog 35 #[.pointer (some ⟨p, 0, none⟩)] w fun e w' => ∃ fv, e = .returned fv ∧ ItAt w.heap.size w' fv (allTo xs n) ∧ Below w.heap.size w w' := by
  rw [ha.all n (Nat.le_refl _)]
  refine (fall_ok h).mono ?_
  rintro e w' ⟨q, b, v, rs, rfl, h1, h2, h3, h4, h5, h6⟩
  obtain ⟨g1, g2, _⟩ := h.rows h4
  exact ⟨_, rfl, .inr (.inr ⟨q, b, v, rs, rfl, h1, h2, h3, by rw [flat_map, h4]; rfl, g1, g2, h5⟩), h6⟩
theorem flen_it (h : Fa w B p c n P V G) (ha : Al c n G xs) :
    Calls Tryd.prog 36 #[.pointer (some ⟨p, 0, none⟩)] w fun e w' => e = .returned (.int .i64 xs.length) ∧ Below w.heap.size w w' := by
  rw [← ha.len h.hn]
  exact flen_ok h
/-- There are not many notes. -/
theorem Al.few (ha : Al c n G xs) (h : Fa w B p c n P V G) : xs.length ≤ 256 := by
  rw [← ha.len h.hn]
  have h16 := h.n16
  have := flatten_le 16 ((List.range n).map G) (fun x hx => by obtain ⟨i, h1, rfl⟩ := List.mem_map.1 hx; have := h.fit i (List.mem_range.1 h1); omega)
  rw [List.length_map, List.length_range] at this
  unfold flatG
  omega
end

end Go.Proofs.YtkfnjpmigifomaaDoor
namespace Go.Proofs.YtkfnjpmigifomaaDoor
open Go.RowKit Go.Shelf
attribute [local go_sem] Oper.semAt_some

section
variable {w : World} {B p q : Nat} {c : Cfg} {n cap : Nat} {P : Nat → Nat} {V : Nat → Value} {G : Nat → List Nt} {A : Option Addr} {xs : List Nt}
set_option maxRecDepth 100000 in
set_option maxHeartbeats 8000000 in
theorem same5_any (h : Fa w B p c n P V G) (hr : Rf w q c.co c.gr c.de A cap xs) (ha : Al c n G xs) :
    Calls Tryd.prog 41 #[.pointer (some ⟨p, 0, none⟩), .pointer (some ⟨q, 0, none⟩)] w fun e w' => e = .returned (.bool true) ∧ Below w.heap.size w w' := by
  obtain ⟨m, hm⟩ : ∃ m : Nat, c.co = m := ⟨c.co.toNat, by have := h.ok.1; unfold okAt at this; omega⟩
  have hfew := ha.few h
  have hn := h.hn
  have hde : 1 ≤ c.de ∧ c.de ≤ 16 := by have := h.n16; omega
  have hm4 : 1 ≤ m ∧ m ≤ 4 := by have := h.n16; omega
  have hmn : n = m * 4 := by omega
  have HF := Lib.hid h
  have HA := Lib.hid ha
  have HR := Lib.hid hr
  have HM := Lib.hid (And.intro hm (And.intro hm4 hmn))
  have HX := Lib.hid hfew
  have HALR := Lib.hid (fun (W : World) (hb : Below w.heap.size w W) => by have h9 := hr.ext hb; rw [hm] at h9; have := rall_any h9 (by omega) hm4.2; rw [← hmn] at this; exact this)
  obtain ⟨hde1, hde2⟩ := hde
  have ql := lt_of hr.bx
  clear h hr ha hfew hn hmn hm
  go_enter Tryd.func41, Tryd.ntmps41
  go_wp2_with fail
  go_loopg [5] (m + 2) (fun g s5 wr => ∃ i : Nat, s5 = .int .i64 ((i : Int) - 1) ∧ i + g = m + 2 ∧ Hid (Below w.heap.size w wr))
  case atStart => exact ⟨0, rfl, by omega, Lib.hid (Below.refl _ _)⟩
  case round =>
    obtain ⟨i, rfl, hi, HB⟩ := hrel
    obtain ⟨x, hx⟩ : ∃ x : Int, x = (i : Int) - 1 := ⟨_, rfl⟩
    rw [← hx]
    obtain ⟨c0, c1, c2, c3, plr⟩ := (HR.out.ext HB.out).cells
    rw [HM.out.1] at c0
    by_cases hlt : x ≤ m
    · have ek : decide (x ≤ (m : Int)) = true := by simpa using hlt
      have HI := Lib.hid (And.intro hi (And.intro hx hlt))
      have hx1 : -1 ≤ x := by omega
      have hx5 : x ≤ 4 := by omega
      clear hi hx hlt
      go_wp2_with fail
      clear c0 c1 c2 c3 plr
      go_loopg [6, 7, 8] 6 (fun g s6 s7 s8 wr => ∃ k : Nat, s6 = .int .i64 ((k : Int) - 1) ∧ k + g = 6 ∧ Hid (Below w.heap.size w wr))
      case atStart => exact ⟨0, rfl, by omega, HB⟩
      case round =>
        clear HB
        obtain ⟨k, rfl, hk, HB⟩ := hrel
        obtain ⟨y, hy⟩ : ∃ y : Int, y = (k : Int) - 1 := ⟨_, rfl⟩
        rw [← hy]
        by_cases hkl : y ≤ 4
        · have ej : decide (y ≤ 4) = true := by simpa using hkl
          have HK := Lib.hid (And.intro hk (And.intro hy hkl))
          have hy1 : -1 ≤ y := by omega
          have HOF := Lib.hid (rof_any (HR.out.ext HB.out) (by have := HX.out; omega) x y)
          have hL : (ofN xs x y).length ≤ 256 := by have h1 : (ofN xs x y).length ≤ xs.length := List.length_filter_le _ _; have := HX.out; omega
          clear hk hy
          go_wp2_with fail
          refine HOF.out.mono ?_
          rintro e w1 ⟨v, rfl, hv, hb⟩
          obtain ⟨A1, cap1, rfl, hs1, -, -, -⟩ := rowN_val hv
          have HB1 := Lib.hid (ext_trans HB.out hb)
          have HS1 := Lib.hid hs1
          have HL := Lib.hid hL
          obtain ⟨c0, c1, c2, c3, plr⟩ := (HR.out.ext HB1.out).cells
          rw [HM.out.1] at c0
          clear hv hb hs1 HOF HB
          have HLN := Lib.hid (fun (W : World) (hb : Below w.heap.size w W) => flane_it (HF.out.ext hb) HA.out x y)
          have HRM := Lib.hid (fun (W : World) (hb : Below w.heap.size w W) => froom_it (HF.out.ext hb) HA.out x y)
          have hcs : x < 0 ∨ (¬ x < 0 ∧ x = m) ∨ (¬ x < 0 ∧ x ≠ m ∧ y < 0) ∨ (¬ x < 0 ∧ x ≠ m ∧ ¬ y < 0 ∧ y = 4) ∨ (¬ x < 0 ∧ x ≠ m ∧ ¬ y < 0 ∧ y ≠ 4) := by omega
          rcases hcs with h1 | ⟨h1, h2⟩ | ⟨h1, h2, h3⟩ | ⟨h1, h2, h3, h4⟩ | ⟨h1, h2, h3, h4⟩
          · have HIN : Hid (inL c x y = false) := Lib.hid (by unfold inL; rw [HM.out.1]; have := HI.out.2.2; have := HK.out.2.2; simp; omega)
            have e1 : decide (x < 0) = true := by simpa using h1
            rw [HIN.out] at HRM
            clear h1
            go_wp2_with fail
            refine (HLN.out _ HB1.out).mono ?_
            rintro e w2 ⟨fv, rfl, hit, hb⟩
            have HIT := Lib.hid hit
            have HB2 := Lib.hid (ext_trans HB1.out hb)
            have HS2 := Lib.hid (HS1.out.ext hb)
            clear hit hb
            go_wp2_with fail
            refine (notes_it HIT.out _ _ HS2.out (by have := HL.out; omega)).mono ?_
            rintro e w3 ⟨rfl, hb⟩
            have HB3 := Lib.hid (ext_trans HB2.out hb)
            clear hb
            go_wp2_with fail
            refine (HRM.out _ HB3.out).mono ?_
            rintro e w4 ⟨rfl, hb⟩
            have HB4 := Lib.hid (ext_trans HB3.out hb)
            clear hb
            go_wp2_with fail
            go_roundg (6 - (k + 1))
            case measure => have := HK.out; omega
            case rel => exact ⟨k + 1, by have := HK.out.2.1; rw [this]; push_cast; congr 1; omega, by have := HK.out; omega, HB4⟩
          · have HIN : Hid (inL c x y = false) := Lib.hid (by unfold inL; rw [HM.out.1]; have := HI.out.2.2; have := HK.out.2.2; simp; omega)
            have e1 : decide (x < 0) = false := by simpa using h1
            have e2 : (x == (m : Int)) = true := by simpa using h2
            rw [HIN.out] at HRM
            clear h1 h2
            go_wp2_with fail
            refine (HLN.out _ HB1.out).mono ?_
            rintro e w2 ⟨fv, rfl, hit, hb⟩
            have HIT := Lib.hid hit
            have HB2 := Lib.hid (ext_trans HB1.out hb)
            have HS2 := Lib.hid (HS1.out.ext hb)
            clear hit hb
            go_wp2_with fail
            refine (notes_it HIT.out _ _ HS2.out (by have := HL.out; omega)).mono ?_
            rintro e w3 ⟨rfl, hb⟩
            have HB3 := Lib.hid (ext_trans HB2.out hb)
            clear hb
            go_wp2_with fail
            refine (HRM.out _ HB3.out).mono ?_
            rintro e w4 ⟨rfl, hb⟩
            have HB4 := Lib.hid (ext_trans HB3.out hb)
            clear hb
            go_wp2_with fail
            go_roundg (6 - (k + 1))
            case measure => have := HK.out; omega
            case rel => exact ⟨k + 1, by have := HK.out.2.1; rw [this]; push_cast; congr 1; omega, by have := HK.out; omega, HB4⟩
          · have HIN : Hid (inL c x y = false) := Lib.hid (by unfold inL; rw [HM.out.1]; have := HI.out.2.2; have := HK.out.2.2; simp; omega)
            have e1 : decide (x < 0) = false := by simpa using h1
            have e2 : (x == (m : Int)) = false := by simpa using h2
            have e3 : decide (y < 0) = true := by simpa using h3
            rw [HIN.out] at HRM
            clear h1 h2 h3
            go_wp2_with fail
            refine (HLN.out _ HB1.out).mono ?_
            rintro e w2 ⟨fv, rfl, hit, hb⟩
            have HIT := Lib.hid hit
            have HB2 := Lib.hid (ext_trans HB1.out hb)
            have HS2 := Lib.hid (HS1.out.ext hb)
            clear hit hb
            go_wp2_with fail
            refine (notes_it HIT.out _ _ HS2.out (by have := HL.out; omega)).mono ?_
            rintro e w3 ⟨rfl, hb⟩
            have HB3 := Lib.hid (ext_trans HB2.out hb)
            clear hb
            go_wp2_with fail
            refine (HRM.out _ HB3.out).mono ?_
            rintro e w4 ⟨rfl, hb⟩
            have HB4 := Lib.hid (ext_trans HB3.out hb)
            clear hb
            go_wp2_with fail
            go_roundg (6 - (k + 1))
            case measure => have := HK.out; omega
            case rel => exact ⟨k + 1, by have := HK.out.2.1; rw [this]; push_cast; congr 1; omega, by have := HK.out; omega, HB4⟩
          · have HIN : Hid (inL c x y = false) := Lib.hid (by unfold inL; rw [HM.out.1]; have := HI.out.2.2; have := HK.out.2.2; simp; omega)
            have e1 : decide (x < 0) = false := by simpa using h1
            have e2 : (x == (m : Int)) = false := by simpa using h2
            have e3 : decide (y < 0) = false := by simpa using h3
            have e4 : (y == 4) = true := by simpa using h4
            rw [HIN.out] at HRM
            clear h1 h2 h3 h4
            go_wp2_with fail
            refine (HLN.out _ HB1.out).mono ?_
            rintro e w2 ⟨fv, rfl, hit, hb⟩
            have HIT := Lib.hid hit
            have HB2 := Lib.hid (ext_trans HB1.out hb)
            have HS2 := Lib.hid (HS1.out.ext hb)
            clear hit hb
            go_wp2_with fail
            refine (notes_it HIT.out _ _ HS2.out (by have := HL.out; omega)).mono ?_
            rintro e w3 ⟨rfl, hb⟩
            have HB3 := Lib.hid (ext_trans HB2.out hb)
            clear hb
            go_wp2_with fail
            refine (HRM.out _ HB3.out).mono ?_
            rintro e w4 ⟨rfl, hb⟩
            have HB4 := Lib.hid (ext_trans HB3.out hb)
            clear hb
            go_wp2_with fail
            go_roundg (6 - (k + 1))
            case measure => have := HK.out; omega
            case rel => exact ⟨k + 1, by have := HK.out.2.1; rw [this]; push_cast; congr 1; omega, by have := HK.out; omega, HB4⟩
          · have HIN : Hid (inL c x y = true) := Lib.hid (by unfold inL; rw [HM.out.1]; have := HI.out.2.2; have := HK.out.2.2; simp; omega)
            have e1 : decide (x < 0) = false := by simpa using h1
            have e2 : (x == (m : Int)) = false := by simpa using h2
            have e3 : decide (y < 0) = false := by simpa using h3
            have e4 : (y == 4) = false := by simpa using h4
            rw [HIN.out] at HRM
            clear h1 h2 h3 h4
            go_wp2_with fail
            refine (HLN.out _ HB1.out).mono ?_
            rintro e w2 ⟨fv, rfl, hit, hb⟩
            have HIT := Lib.hid hit
            have HB2 := Lib.hid (ext_trans HB1.out hb)
            have HS2 := Lib.hid (HS1.out.ext hb)
            clear hit hb
            go_wp2_with fail
            refine (notes_it HIT.out _ _ HS2.out (by have := HL.out; omega)).mono ?_
            rintro e w3 ⟨rfl, hb⟩
            have HB3 := Lib.hid (ext_trans HB2.out hb)
            clear hb
            go_wp2_with fail
            refine (HRM.out _ HB3.out).mono ?_
            rintro e w4 ⟨rfl, hb⟩
            have HB4 := Lib.hid (ext_trans HB3.out hb)
            clear hb
            go_wp2_with fail
            go_roundg (6 - (k + 1))
            case measure => have := HK.out; omega
            case rel => exact ⟨k + 1, by have := HK.out.2.1; rw [this]; push_cast; congr 1; omega, by have := HK.out; omega, HB4⟩
        · have ej : decide (y ≤ 4) = false := by simpa using hkl
          clear hk hy hkl
          go_wp2_with fail
          go_roundg (m + 2 - (i + 1))
          case measure => have := HI.out; omega
          case rel => exact ⟨i + 1, by have := HI.out.2.1; rw [this]; push_cast; congr 1; omega, by have := HI.out; omega, HB⟩
    · have ek : decide (x ≤ (m : Int)) = false := by simpa using hlt
      have HAL := Lib.hid (fun (W : World) (hb : Below w.heap.size w W) => fall_it (HF.out.ext hb) HA.out)
      have HFL := Lib.hid (fun (W : World) (hb : Below w.heap.size w W) => flen_it (HF.out.ext hb) HA.out)
      have HAT : Hid ((allTo xs n).length ≤ 1000) := Lib.hid (by rw [HA.out.all n (Nat.le_refl _), HA.out.len HF.out.hn]; have := HX.out; omega)
      have hbz := HB.out
      have hL : (xs.length : Int) ≤ 256 := by have := HX.out; omega
      have QQ := c3
      clear hi hx hlt c1 c2 c3
      go_wp2_with fail
      go_region_held3 (fun w' => w'.cell? ⟨q, 3, none⟩ = some (.slice A xs.length cap)) (exact QQ)
        (first
          | (go_at_call 35; refine (HAL.out _ (by repeat (with_reducible first | exact Below.refl _ _ | assumption | (refine ext_next (by assumption) ?_) | apply ext_alloc | apply ext_past | apply ext_drew | apply ext_drewN))).mono ?_; rintro e wA ⟨fv, rfl, hit, hb⟩; have HIT := Lib.hid hit; (try have HSL := Lib.hid (HSL.out.ext hb)); have hbA : Below w.heap.size w wA := ext_next hb (by repeat (with_reducible first | exact Below.refl _ _ | assumption | (refine ext_next (by assumption) ?_) | apply ext_alloc | apply ext_past | apply ext_drew | apply ext_drewN)); have QQ := (HR.out.ext hbA).cells.2.2.2.1; clear hit hb)
          | (go_at_call 43; refine (HALR.out _ (by repeat (with_reducible first | exact Below.refl _ _ | assumption | (refine ext_next (by assumption) ?_) | apply ext_alloc | apply ext_past | apply ext_drew | apply ext_drewN))).mono ?_; rintro e wR ⟨v, rfl, hv, hb⟩; obtain ⟨A2, cap2, rfl, hs2, -, -, -⟩ := rowN_val hv; have HSL := Lib.hid hs2; (try have HIT := Lib.hid (HIT.out.ext hb)); have hbR : Below w.heap.size w wR := ext_next hb (by repeat (with_reducible first | exact Below.refl _ _ | assumption | (refine ext_next (by assumption) ?_) | apply ext_alloc | apply ext_past | apply ext_drew | apply ext_drewN)); have QQ := (HR.out.ext hbR).cells.2.2.2.1; clear hv hs2 hb)
          | (go_at_call 42; refine (notes_it HIT.out _ _ HSL.out HAT.out).mono ?_; rintro e wN ⟨rfl, hb⟩; have hbN : Below w.heap.size w wN := ext_next hb (by repeat (with_reducible first | exact Below.refl _ _ | assumption | (refine ext_next (by assumption) ?_) | apply ext_alloc | apply ext_past | apply ext_drew | apply ext_drewN)); have QQ := (HR.out.ext hbN).cells.2.2.2.1; clear hb)
          | (go_at_call 36; refine (HFL.out _ (by repeat (with_reducible first | exact Below.refl _ _ | assumption | (refine ext_next (by assumption) ?_) | apply ext_alloc | apply ext_past | apply ext_drew | apply ext_drewN))).mono ?_; rintro e wL ⟨rfl, hb⟩; have hbL : Below w.heap.size w wL := ext_next hb (by repeat (with_reducible first | exact Below.refl _ _ | assumption | (refine ext_next (by assumption) ?_) | apply ext_alloc | apply ext_past | apply ext_drew | apply ext_drewN)); have QQ := (HR.out.ext hbL).cells.2.2.2.1; clear hb))
      all_goals
        go_wp2_with fail
        go_ret
        exact ⟨rfl, hbL⟩
end

end Go.Proofs.YtkfnjpmigifomaaDoor
