/- What this text holds: a call of a monitor. No condition. -/
import Derived.Test.YtjggnhcdnfmmeaaMoE
import Derived.Test.YtjggnhcdnfmmeaaMoR
import Derived.Test.YtjggnhcdnfmmeaaRsw
import Derived.Deep.RegionHeld3
import Derived.Deep.CutRange
namespace Go.Proofs.Ytjggnhcdnfmmeaa
open Go.RowKit Go.Maps Go.Shelf
attribute [local go_sem] Oper.semAt_some

/-- A look-up in a region that only reads. -/
theorem quietIn_lookup {F : Fence} {n : Nat} {P : Program} {C : World → Prop} {a : Act} {o : Oper} {K : Act → Prop} (T : TypeId) (m x : Operand) (hop : o.op = .lookup T m x false) (v : Value) (hrun : ∀ w, C w → (Instr.lookup T (a.eval m) (a.eval x) false).run P w = .ok v w) (hk : K (a.put o.dst v)) : o.quietIn F n P a C K :=
  ⟨v, fun w hw => by
    unfold Oper.quietAtIn
    simp [execOp, hop, hrun w hw, Result.andThen]
    exact ⟨rfl, rfl⟩, hk⟩
/-- The call's own boxes. -/
structure Cw (w W : World) (p : Nat) (a : Ak) : Prop where
  c0 : W.heap[w.heap.size]? = some (.cells #[.pointer (some ⟨p, 0, none⟩)] 66 (0, 0))
  c1 : W.heap[w.heap.size + 1]? = some (.cells #[.int .i64 a.co, .int .i64 a.wo, .int .i64 a.ca, .int .i64 a.gr, .int .i64 a.to] 70 (0, 0))
  c2 : W.heap[w.heap.size + 2]? = some (.cells #[.bool false] 4 (0, 0))
  c3 : W.heap[w.heap.size + 3]? = some (.cells #[.int .i64 0] 28 (0, 0))
section
variable {w W W' : World} {p : Nat} {a : Ak}
theorem Cw.lt (h : Cw w W p a) : w.heap.size + 3 < W.heap.size := lt_of h.c3
theorem Cw.keep (h : Cw w W p a) (hk : ∀ k, w.heap.size ≤ k → k < W.heap.size → W'.heap[k]? = W.heap[k]?) : Cw w W' p a := by
  have hl := h.lt
  exact ⟨(hk _ (by omega) (by omega)).trans h.c0, (hk _ (by omega) (by omega)).trans h.c1, (hk _ (by omega) (by omega)).trans h.c2, (hk _ (by omega) (by omega)).trans h.c3⟩
theorem Cw.ext (h : Cw w W p a) (hb : Below W.heap.size W W') : Cw w W' p a := h.keep (fun k _ h2 => hb.block k h2)
theorem Cw.far {g b : Nat} (h : Cw w W p a) (k : Gt W W' g b) (h1 : g < w.heap.size) (h2 : b < w.heap.size) : Cw w W' p a := h.keep (fun q h3 h4 => k.block q h4 (by omega) (by omega))
theorem Cw.ask (h : Cw w W p a) : W.cell? ⟨w.heap.size, 0, none⟩ = some (.pointer (some ⟨p, 0, none⟩)) ∧ W.cell? ⟨w.heap.size + 1, 0, none⟩ = some (.int .i64 a.co) ∧ W.cell? ⟨w.heap.size + 1, 1, none⟩ = some (.int .i64 a.wo) ∧ W.cell? ⟨w.heap.size + 1, 2, none⟩ = some (.int .i64 a.ca) ∧ W.cell? ⟨w.heap.size + 1, 3, none⟩ = some (.int .i64 a.gr) ∧ W.cell? ⟨w.heap.size + 1, 4, none⟩ = some (.int .i64 a.to) := by
  simp [World.cell?, h.c0, h.c1]
theorem Cw.res (h : Cw w W p a) : W.cell? ⟨w.heap.size + 2, 0, none⟩ = some (.bool false) ∧ W.cell? ⟨w.heap.size + 3, 0, none⟩ = some (.int .i64 0) ∧ W.frozen? ⟨w.heap.size + 2, 0, none⟩ = false ∧ W.frozen? ⟨w.heap.size + 3, 0, none⟩ = false := by
  simp [World.cell?, World.frozen?, h.c2, h.c3]
theorem Cw.lts (h : Cw w W p a) : w.heap.size < W.heap.size ∧ w.heap.size + 1 < W.heap.size ∧ w.heap.size + 2 < W.heap.size ∧ w.heap.size + 3 < W.heap.size := by have := h.lt; omega
theorem ent_at {W : World} {E : Nat} {x : Int} {y : Bool} (h : W.heap[E]? = some (.cells #[.int .i64 x, .bool y] 55 (0, 0))) : W.cell? ⟨E, 0, none⟩ = some (.int .i64 x) ∧ W.cell? ⟨E, 1, none⟩ = some (.bool y) ∧ (∀ i, W.frozen? ⟨E, i, none⟩ = false) ∧ E < W.heap.size :=
  ⟨by simp [World.cell?, h], by simp [World.cell?, h], fun i => by simp [World.frozen?, h], lt_of h⟩
theorem ext_set {W X : World} {c : Addr} {v : Value} (h : Below W.heap.size W X) (hc : W.heap.size ≤ c.block) : Below W.heap.size W (X.setCell c v) := h.setCell (p := c) hc v
theorem ent_set {W : World} {E : Nat} {x : Int} {y : Bool} (x' : Int) (y' : Bool) (h : W.heap[E]? = some (.cells #[.int .i64 x, .bool y] 55 (0, 0))) : ((W.setCell ⟨E, 0, none⟩ (.int .i64 x')).setCell ⟨E, 1, none⟩ (.bool y')).heap[E]? = some (.cells #[.int .i64 x', .bool y'] 55 (0, 0)) := by
  have h1 := Joins.block_setCell (i := 0) h (.int .i64 x')
  have h2 := Joins.block_setCell (i := 1) h1 (.bool y')
  simpa using h2
/-- The answer is laid down. -/
theorem Cw.fin (h : Cw w W p a) (x : Bool) (y : Int) : ((W.setCell ⟨w.heap.size + 2, 0, none⟩ (.bool x)).setCell ⟨w.heap.size + 3, 0, none⟩ (.int .i64 y)).cell? ⟨w.heap.size + 2, 0, none⟩ = some (.bool x) ∧ ((W.setCell ⟨w.heap.size + 2, 0, none⟩ (.bool x)).setCell ⟨w.heap.size + 3, 0, none⟩ (.int .i64 y)).cell? ⟨w.heap.size + 3, 0, none⟩ = some (.int .i64 y) ∧ ∀ k, k < w.heap.size → ((W.setCell ⟨w.heap.size + 2, 0, none⟩ (.bool x)).setCell ⟨w.heap.size + 3, 0, none⟩ (.int .i64 y)).heap[k]? = W.heap[k]? := by
  have h1 := set_of (u := .bool x) h.c2
  have h2 : (W.setCell ⟨w.heap.size + 2, 0, none⟩ (.bool x)).heap[w.heap.size + 3]? = some (.cells #[.int .i64 0] 28 (0, 0)) := (Below.heap_setCell _ _ _ _ (by simp)).trans h.c3
  have h3 := set_of (u := .int .i64 y) h2
  have h4 : ((W.setCell ⟨w.heap.size + 2, 0, none⟩ (.bool x)).setCell ⟨w.heap.size + 3, 0, none⟩ (.int .i64 y)).heap[w.heap.size + 2]? = _ := (Below.heap_setCell _ _ _ _ (by simp)).trans h1
  exact ⟨cell_of h4, cell_of h3, fun k hk => (Below.heap_setCell _ _ _ _ (by simp; omega)).trans (Below.heap_setCell _ _ _ _ (by simp; omega))⟩
end
theorem cw_new (w : World) (p : Nat) (a : Ak) : Cw w ((((w.alloc (.cells #[.pointer (some ⟨p, 0, none⟩)] 66)).alloc (.cells #[.int .i64 a.co, .int .i64 a.wo, .int .i64 a.ca, .int .i64 a.gr, .int .i64 a.to] 70)).alloc (.cells #[.bool false] 4)).alloc (.cells #[.int .i64 0] 28)) p a :=
  ⟨alOld (alOld (alOld (alNew rfl))), alOld (alOld (alNew (by simp))), alOld (alNew (by simp)), alNew (by simp)⟩
theorem cw_below (w : World) (p : Nat) (a : Ak) : Below w.heap.size w ((((w.alloc (.cells #[.pointer (some ⟨p, 0, none⟩)] 66)).alloc (.cells #[.int .i64 a.co, .int .i64 a.wo, .int .i64 a.ca, .int .i64 a.gr, .int .i64 a.to] 70)).alloc (.cells #[.bool false] 4)).alloc (.cells #[.int .i64 0] 28)) :=
  ext_alloc _ (ext_alloc _ (ext_alloc _ (ext_alloc _ (Below.refl _ _))))
section
variable {w : World} {B p t g b M : Nat} {n : Int} {s : Ms}
set_option maxRecDepth 100000 in
set_option maxHeartbeats 4000000 in
theorem mcall_co (h : Mn w B p t g b n M s) (a : Ak) (hco : a.co < 0 ∨ n ≤ a.co) :
    Calls Try.prog 30 #[.pointer (some ⟨p, 0, none⟩), a.val] w fun e w' => e = .returned (.tuple #[.bool false, .int .i64 1]) ∧ Below w.heap.size w w' := by
  have HH := Lib.hid h
  have HC := Lib.hid (And.intro (cw_new w p a) (cw_below w p a))
  clear h
  unfold Ak.val
  go_enter Try.func30, Try.ntmps30
  go_wp2_with fail
  obtain ⟨W0, hW0⟩ : ∃ W0, W0 = ((((w.alloc (.cells #[.pointer (some ⟨p, 0, none⟩)] 66)).alloc (.cells #[.int .i64 a.co, .int .i64 a.wo, .int .i64 a.ca, .int .i64 a.gr, .int .i64 a.to] 70)).alloc (.cells #[.bool false] 4)).alloc (.cells #[.int .i64 0] 28)) := ⟨_, rfl⟩
  rw [← hW0] at HC ⊢
  clear hW0
  obtain ⟨a0, a1, a2, a3, a4, a5⟩ := HC.out.1.ask
  obtain ⟨l0, l1, l2, l3⟩ := HC.out.1.lts
  obtain ⟨q0, q1, q2⟩ := (HH.out.ext HC.out.2).cells
  have pl := (HH.out.ext HC.out.2).lt.1
  by_cases hc0 : a.co < 0
  · have ec : decide (a.co < 0) = true := by simpa using hc0
    clear hco hc0
    refine region_past (by kernel_rfl) (by kernel_rfl) ?_; (repeat (go_big_quiet_step (fail))); refine wpQuiet_nil ?_; rintro _ ⟨py, rfl⟩
    have HCy := Lib.hid (And.intro (HC.out.1.ext (ext_past py (Below.refl _ _))) (ext_trans HC.out.2 (ext_past py (Below.refl _ _))))
    obtain ⟨r0, r1, r2, r3⟩ := HCy.out.1.res
    obtain ⟨m0, m1, m2, m3⟩ := HCy.out.1.lts
    clear a0 a1 a2 a3 a4 a5 l0 l1 l2 l3 q0 q1 q2 pl
    go_wp2_with fail
    obtain ⟨d0, d1, _⟩ := HCy.out.1.fin false 1
    (try simp only [Exit.inBlock, Exit.then]); refine bodyPost_ret (by simp [results, Try.results30, go_sem, d0, d1]; try rfl) rfl ?_
    exact ⟨rfl, (HCy.out.2.setCell (p := ⟨w.heap.size + 1 + 1, 0, none⟩) (by simp; omega) _).setCell (p := ⟨w.heap.size + 1 + 1 + 1, 0, none⟩) (by simp; omega) _⟩
  · have ec : decide (a.co < 0) = false := by simpa using hc0
    have ec2 : decide (a.co ≥ n) = true := by simp; omega
    have ec3 : decide (n ≤ a.co) = true := by simp; omega
    clear hco hc0
    refine region_past (by kernel_rfl) (by kernel_rfl) ?_; (repeat (go_big_quiet_step (fail))); refine wpQuiet_nil ?_; rintro _ ⟨py, rfl⟩
    have HCy := Lib.hid (And.intro (HC.out.1.ext (ext_past py (Below.refl _ _))) (ext_trans HC.out.2 (ext_past py (Below.refl _ _))))
    obtain ⟨r0, r1, r2, r3⟩ := HCy.out.1.res
    obtain ⟨m0, m1, m2, m3⟩ := HCy.out.1.lts
    clear a0 a1 a2 a3 a4 a5 l0 l1 l2 l3 q0 q1 q2 pl
    go_wp2_with fail
    obtain ⟨d0, d1, _⟩ := HCy.out.1.fin false 1
    (try simp only [Exit.inBlock, Exit.then]); refine bodyPost_ret (by simp [results, Try.results30, go_sem, d0, d1]; try rfl) rfl ?_
    exact ⟨rfl, (HCy.out.2.setCell (p := ⟨w.heap.size + 1 + 1, 0, none⟩) (by simp; omega) _).setCell (p := ⟨w.heap.size + 1 + 1 + 1, 0, none⟩) (by simp; omega) _⟩
set_option maxRecDepth 100000 in
set_option maxHeartbeats 8000000 in
theorem mcall_gr (h : Mn w B p t g b n M s) (a : Ak) (hco : 0 ≤ a.co ∧ a.co < n) (hk : a.gr < 0 ∨ s.es.length ≤ a.gr) :
    Calls Try.prog 30 #[.pointer (some ⟨p, 0, none⟩), a.val] w fun e w' => e = .returned (.tuple #[.bool false, .int .i64 10]) ∧ Below w.heap.size w w' := by
  have HH := Lib.hid h
  have HC := Lib.hid (And.intro (cw_new w p a) (cw_below w p a))
  have HG := Lib.hid (fun (W : World) (hb : Below w.heap.size w W) => get_no t g s.es a.gr W (h.ext hb).tb hk)
  have ec : decide (a.co < 0) = false := by simp; omega
  have ec2 : decide (a.co ≥ n) = false := by simp; omega
  have ec3 : decide (n ≤ a.co) = false := by simp; omega
  clear h hco hk
  unfold Ak.val
  go_enter Try.func30, Try.ntmps30
  go_wp2_with fail
  obtain ⟨W0, hW0⟩ : ∃ W0, W0 = ((((w.alloc (.cells #[.pointer (some ⟨p, 0, none⟩)] 66)).alloc (.cells #[.int .i64 a.co, .int .i64 a.wo, .int .i64 a.ca, .int .i64 a.gr, .int .i64 a.to] 70)).alloc (.cells #[.bool false] 4)).alloc (.cells #[.int .i64 0] 28)) := ⟨_, rfl⟩
  rw [← hW0] at HC ⊢
  clear hW0
  obtain ⟨a0, a1, a2, a3, a4, a5⟩ := HC.out.1.ask
  obtain ⟨l0, l1, l2, l3⟩ := HC.out.1.lts
  obtain ⟨q0, q1, q2⟩ := (HH.out.ext HC.out.2).cells
  have pl := (HH.out.ext HC.out.2).lt.1
  refine region_past (by kernel_rfl) (by kernel_rfl) ?_; (repeat (go_big_quiet_step (fail))); refine wpQuiet_nil ?_; rintro _ ⟨py, rfl⟩
  obtain ⟨W1, hW1⟩ : ∃ W1, W1 = py.val := ⟨_, rfl⟩
  have HC1 : Hid (Cw w W1 p a ∧ Below w.heap.size w W1) := Lib.hid (by rw [hW1]; exact And.intro (HC.out.1.ext (ext_past py (Below.refl _ _))) (ext_trans HC.out.2 (ext_past py (Below.refl _ _))))
  rw [← hW1]
  have QH := Lib.hid (fun (W : World) (hb : Below W1.heap.size W1 W) => show (fun (w' : World) => w'.cell? ⟨w.heap.size, 0, none⟩ = some (.pointer (some ⟨p, 0, none⟩)) ∧ w'.cell? ⟨p, 0, none⟩ = some (.pointer (some ⟨t, 0, none⟩)) ∧ w'.cell? ⟨w.heap.size + 1, 3, none⟩ = some (.int .i64 a.gr)) W from ⟨(HC1.out.1.ext hb).ask.1, (HH.out.ext (ext_trans HC1.out.2 hb)).cells.1, (HC1.out.1.ext hb).ask.2.2.2.2.1⟩)
  have HG1 := Lib.hid (fun (W : World) (hb : Below W1.heap.size W1 W) => HG.out W (ext_trans HC1.out.2 hb))
  clear hW1 a0 a1 a2 a3 a4 a5 l0 l1 l2 l3 q0 q1 q2 pl
  go_wp2_with fail
  go_cut [6, 7] from 28 to 37 (fun s6 s7 wc => ∃ E, s6 = .pointer (some ⟨E, 0, none⟩) ∧ s7 = .int .i64 10 ∧ Hid (Below W1.heap.size W1 wc))
  case first =>
    have QQ := QH.out W1.drew (ext_drew (Below.refl _ _))
    go_region_held3 (fun w' => w'.cell? ⟨w.heap.size, 0, none⟩ = some (.pointer (some ⟨p, 0, none⟩)) ∧ w'.cell? ⟨p, 0, none⟩ = some (.pointer (some ⟨t, 0, none⟩)) ∧ w'.cell? ⟨w.heap.size + 1, 3, none⟩ = some (.int .i64 a.gr))
      (first | exact QQ | exact QH.out _ (by repeat (with_reducible first | exact Below.refl _ _ | assumption | (refine ext_next (by assumption) ?_) | apply ext_alloc | apply ext_past | apply ext_drew | apply ext_drewN | (refine ext_set ?_ (by first | exact Nat.le_refl _ | (simp; done))))))
      (first
        | (go_at_call 25; refine (HG1.out _ (by repeat (with_reducible first | exact Below.refl _ _ | assumption | (refine ext_next (by assumption) ?_) | apply ext_alloc | apply ext_past | apply ext_drew | apply ext_drewN))).mono ?_; rintro e w2 ⟨rfl, hb2⟩; have QQ := QH.out w2 (ext_next hb2 (by repeat (with_reducible first | exact Below.refl _ _ | assumption | (refine ext_next (by assumption) ?_) | apply ext_alloc | apply ext_past | apply ext_drew | apply ext_drewN))); have hE : w2.heap[W1.heap.size]? = some (.cells #[.int .i64 0, .bool false] 55 (0, 0)) := (hb2.block _ (by simp)).trans (by first | exact alNew rfl | exact alNew (by simp)); obtain ⟨e0, e1, e2, e3⟩ := ent_at hE)
        | (go_at_call 25; refine (HG1.out _ (by repeat (with_reducible first | exact Below.refl _ _ | assumption | (refine ext_next (by assumption) ?_) | apply ext_alloc | apply ext_past | apply ext_drew | apply ext_drewN))).mono ?_; rintro e w2 ⟨rfl, hb2⟩; have QQ := QH.out w2 (ext_next hb2 (by repeat (with_reducible first | exact Below.refl _ _ | assumption | (refine ext_next (by assumption) ?_) | apply ext_alloc | apply ext_past | apply ext_drew | apply ext_drewN)))))
    all_goals (try go_wp2_with fail)
    all_goals go_meet
    all_goals exact ⟨_, rfl, rfl, Lib.hid (by repeat (with_reducible first | exact Below.refl _ _ | assumption | (refine ext_next (by assumption) ?_) | apply ext_alloc | apply ext_past | apply ext_drew | apply ext_drewN | (refine ext_set ?_ (by first | exact Nat.le_refl _ | (simp; done)))))⟩
  case rest =>
    obtain ⟨E, rfl, rfl, HB⟩ := hcut
    have HCy := Lib.hid (And.intro (HC1.out.1.ext HB.out) (ext_trans HC1.out.2 HB.out))
    obtain ⟨r0, r1, r2, r3⟩ := HCy.out.1.res
    obtain ⟨m0, m1, m2, m3⟩ := HCy.out.1.lts
    go_step
    go_wp2_with fail
    obtain ⟨d0, d1, _⟩ := HCy.out.1.fin false 10
    (try simp only [Exit.inBlock, Exit.then]); refine bodyPost_ret (by simp [results, Try.results30, go_sem, d0, d1]; try rfl) rfl ?_
    exact ⟨rfl, (HCy.out.2.setCell (p := ⟨w.heap.size + 1 + 1, 0, none⟩) (by simp; omega) _).setCell (p := ⟨w.heap.size + 1 + 1 + 1, 0, none⟩) (by simp; omega) _⟩
end

end Go.Proofs.Ytjggnhcdnfmmeaa
