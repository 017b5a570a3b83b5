/- What this text holds: an iterator that has loops over iterators of its own: its contract, and the law of the loop over it. No condition. -/
import Derived.Test.YtkfnjpmigifomaaDoorRbx
import Derived.RangeFuncNested
namespace Go.Proofs.YtkfnjpmigifomaaDoor
open Go.RowKit

/-- Whatever was laid from B on lies as it lay. -/
structure KA (B : Nat) (W W' : World) : Prop where
  size : W.heap.size ≤ W'.heap.size
  same : ∀ k, B ≤ k → k < W.heap.size → W'.heap[k]? = W.heap[k]?
theorem KA.refl (B : Nat) (W : World) : KA B W W := ⟨Nat.le_refl _, fun _ _ _ => rfl⟩
theorem KA.trans {B : Nat} {X Y Z : World} (h : KA B X Y) (k : KA B Y Z) : KA B X Z := ⟨Nat.le_trans h.size k.size, fun i hi hl => (k.same i hi (Nat.lt_of_lt_of_le hl h.size)).trans (h.same i hi hl)⟩
theorem KA.low {B B' : Nat} {W W' : World} (h : KA B W W') (hb : B ≤ B') : KA B' W W' := ⟨h.size, fun k hk hl => h.same k (by omega) hl⟩
theorem KA.put {B l : Nat} {W : World} {o : Obj} (hl : l < B) : KA B W (W.putObj l o) := ⟨by simp, fun k hk _ => World.putObj_heap_other (by omega)⟩
theorem KA.of_below {B : Nat} {W W' : World} (h : Below W.heap.size W W') : KA B W W' := ⟨h.size, fun k _ hl => h.block k hl⟩
theorem KA.of_grown {B : Nat} {W W' : World} {row : Option Nat} (hg : W.grownBy W' row) (hr : ∀ j, row = some j → j < B) : KA B W W' := ⟨hg.size, fun k hk hl => hg.block k hl (fun e => by have := hr k e.symm; omega)⟩
theorem KA.setCell {B : Nat} (W : World) (a : Addr) (v : Value) (ha : a.block < B) : KA B W (W.setCell a v) := ⟨by simp, fun k hk _ => Below.heap_setCell _ _ _ _ (by omega)⟩
theorem ownFrom_ka {β : Type} {B B' : Nat} {w₀ : World} (hB : w₀.heap.size ≤ B') : OwnFrom B' (fun (_ : β) W => KA B w₀ W) :=
  fun _ X Y row hs hg hr => ⟨Nat.le_trans hs.size hg.size, fun k hk hl => (hg.block k (Nat.lt_of_lt_of_le hl hs.size) (fun e => by have := (hr k e.symm).1; omega)).trans (hs.same k hk hl)⟩
/-- How the body of a round may be left. -/
def runPost {α : Type} (B : Nat) (Kp : World → World → Prop) (I : List α → World → Prop) (Ix : Code → List α → World → Prop) (xs : List α) (W : World) : Exit → Act → World → Prop
  | .normal, _, W' => KA B W W' ∧ Kp W W' ∧ I xs W'
  | .ret, _, W' => KA B W W' ∧ Ix .ret xs W'
  | .exit id, _, W' => KA B W W' ∧ Ix (.exit id) xs W'
  | .goto t, _, W' => KA B W W' ∧ Ix (.goto t) xs W'
  | .panic _, _, _ => False
  | .outgrown, _, _ => False
/-- The contract of an iterator that may turn records of its own: what the caller says must abide all turns of what is no cells, and was laid later. -/
def SeqRuns {α : Type} (F : Fence) (n : Nat) (P : Program) (g : Nat) (lb : Array Value) (encs : α → Array Value) (Kp : World → World → Prop) (ok : List α → α → Prop) (S Sp : List α → Prop) (w : World) : Prop :=
  ∀ (l : Nat) (J Jx : List α → World → Prop) (W : World), Below w.heap.size w W → l < W.heap.size → OwnFrom W.heap.size J → OwnFrom W.heap.size Jx →
    (∀ pre x W1, J pre W1 → ok pre x → YieldAt F (n - 1) P l (encs x) W1 fun e W' =>
      KA W.heap.size W1 W' ∧ ((e = .returned (.bool true) ∧ J (pre ++ [x]) W' ∧ Kp W1 W') ∨ (e = .returned (.bool false) ∧ Jx (pre ++ [x]) W'))) →
    J [] W →
    CallsIn F n P g (#[.func (.yield l) #[] #[]] ++ lb) W fun e W' => (∃ v, e = .returned v) ∧ ((∃ xs, S xs ∧ J xs W') ∨ (∃ pre, Sp pre ∧ Jx pre W'))

section
variable {F : Fence} {n : Nat} {P : Program} {w : World} {α : Type}
/-- What a caller's loop says of its own two blocks. -/
structure Rc (w W : World) (r : Loop) : Prop where
  l : W.heap[w.heap.size + 1]? = some (.loop r)
  d : W.heap[w.heap.size]? = some (.deferred (some []))
theorem Rc.lt {W : World} {r : Loop} (h : Rc w W r) : w.heap.size + 1 < W.heap.size := lt_of h.l
theorem Rc.from {W W' : World} {r : Loop} (h : Rc w W r) (k : KA w.heap.size W W') : Rc w W' r := ⟨(k.same _ (by omega) h.lt).trans h.l, (k.same _ (Nat.le_refl _) (by have := h.lt; omega)).trans h.d⟩
theorem Rc.turn {W : World} {r : Loop} (h : Rc w W r) (r' : Loop) : Rc w (W.putObj (w.heap.size + 1) (.loop r')) r' := ⟨World.putObj_heap_same h.lt, (World.putObj_heap_other (by omega)).trans h.d⟩
theorem Rc.late {W W' : World} {r : Loop} {row : Option Nat} {B : Nat} (h : Rc w W r) (hB : w.heap.size + 1 < B) (hg : W.grownBy W' row) (hr : ∀ j, row = some j → B ≤ j) : Rc w W' r :=
  ⟨(hg.block _ h.lt (fun e => by have := hr _ e.symm; omega)).trans h.l, (hg.block _ (by have := h.lt; omega) (fun e => by have := hr _ e.symm; omega)).trans h.d⟩

/-- The loop over such an iterator (outside of all rounds). -/
theorem wpIn_rangeFunc_runs {g : Operand} {ps : Array Tmp} {assign body : Code} {Q : Exit → Act → World → Prop} {a : Act}
    (hro : F.round = none) (h1 : 1 ≤ n) {gf : Nat} {lb : Array Value} (hg : a.eval g = .func (.func gf) #[] lb) (hFg : F.fn gf) (eg : ∀ args w, (callFunc gf args).run P w = .ok (.enter gf args) w)
    {encs : α → Array Value} {Kp : World → World → Prop} {ok : List α → α → Prop} {S Sp : List α → Prop} {w0 : World} (hseq : SeqRuns F (n - 1) P gf lb encs Kp ok S Sp w0)
    (hKt : ∀ {A B C : World}, Kp A B → Kp B C → Kp A C) (hKb : ∀ (W : World) (l : Nat) (o o' : Obj), w.heap.size ≤ l → W.heap[l]? = some o → o.isCells = false → o.isWalk = false → Kp W (W.putObj l o')) (hb0 : Below w0.heap.size w0 w) (hps : ∀ x, (encs x).size = ps.size)
    (I : List α → World → Prop) (Ix : Code → List α → World → Prop) (hI : OwnFrom w.heap.size I) (hIx : ∀ c, OwnFrom w.heap.size (Ix c)) (h0 : I [] w) (Ax : α → Act → World → Prop) (hAx : ∀ x a', OwnFrom w.heap.size (fun (_ : Unit) W => Ax x a' W))
    (hassign : ∀ (l : Nat) (pre : List α) (x : α) (W : World) (K : Act → World → Prop), ok pre x → I pre W → (∀ a' W', KA w.heap.size W W' → Kp W W' → I pre W' → Ax x a' W' → K a' W') →
      assign.wpIn (F.inRound l) (n - 1 - 1) P (Exit.then K (fun _ _ _ => False)) { tmps := (ps.zip (encs x)).foldl (fun t (p, v) => t.setIfInBounds p v) a.tmps, defers := [] } W)
    (hbody : ∀ (l : Nat) (pre : List α) (x : α) (a' : Act) (W : World), w.heap.size ≤ l → (∃ r, W.heap[l]? = some (.loop r)) → I pre W → Ax x a' W → ok pre x → body.wpIn (F.inRound l) (n - 1 - 1) P (runPost w.heap.size Kp I Ix (pre ++ [x]) W) a' W)
    (hdone : ∀ (D : Nat) (xs : List α) (W : World), w.heap.size ≤ D → S xs → I xs W → W.heap[D]? = some (.deferred (some [])) → Q .normal { a with defers := { target := .collected D, args := #[] } :: a.defers } W)
    (hstop : ∀ (D : Nat) (c : Code) (pre : List α) (W : World), w.heap.size ≤ D → Sp pre → Ix c pre W → W.heap[D]? = some (.deferred (some [])) → c.wpIn F n P Q { a with defers := { target := .collected D, args := #[] } :: a.defers } W) :
    (Code.rangeFunc g ps assign body).wpIn F n P Q a w := by
  refine wpIn_rangeFunc fun fn hfn => ?_
  rw [hro]
  obtain ⟨R, hR⟩ : ∃ R : LoopState → Option Code → Loop, R = fun st pe => { state := st, pending := pe, fn, tmps := a.tmps, params := ps, assign, body, defers := w.heap.size } := ⟨_, rfl⟩
  have hRp : ∀ st pe, (R st pe).params = ps := fun st pe => by rw [hR]
  have hRs : ∀ st pe, (R st pe).state = st := fun st pe => by rw [hR]
  obtain ⟨V, hV⟩ : ∃ V, (w.alloc (.deferred (some []))).alloc (.loop (R .ready none)) = V := ⟨_, rfl⟩
  have hsz : V.heap.size = w.heap.size + 2 := by rw [← hV]; simp
  have hrc : Rc w V (R .ready none) := by
    rw [← hV]
    exact ⟨alNew (by simp), alOld (World.alloc_heap_new w _)⟩
  have hIV : I [] V := by rw [← hV]; exact hI.alloc _ (hI.alloc _ h0)
  have hbV : Below w0.heap.size w0 V := by
    rw [← hV]; exact hb0.trans ((((Below.refl _ w).alloc (Nat.le_refl _) _).alloc (by simp) _).mono hb0.size)
  refine ⟨w.heap.size + 1, [{ target := .collected w.heap.size, args := #[] }], V, { target := .fn (.func gf) lb, args := #[.func (.yield (w.heap.size + 1)) #[] #[]] }, V, gf,
    #[.func (.yield (w.heap.size + 1)) #[] #[]] ++ lb, V, ?_, ?_, ?_, ?_, fun _ => h1, ?_⟩
  · rw [← hV, hR]; exact run_enterLoop_outer _ _ _ _ _
  · simp only [resolve, hg]
    simp [go_sem]
  · intro f' hf'; simp [Target.leads] at hf'; subst hf'; exact hFg
  · simp [invoke, go_sem, eg]
  refine (hseq (w.heap.size + 1) (fun pre W => I pre W ∧ Rc w W (R .ready none)) (fun pre W => ∃ c, Ix c pre W ∧ Rc w W (R .done (some c))) V hbV (by omega)
    (fun s A B row hs hg' hr => ⟨hI s A B row hs.1 hg' (fun r e => ⟨by have := (hr r e).1; omega, (hr r e).2⟩), hs.2.late (by omega) hg' (fun j e => (hr j e).1)⟩)
    (fun s A B row hs hg' hr => by
      obtain ⟨c, hc, hd⟩ := hs
      exact ⟨c, hIx c s A B row hc hg' (fun r e => ⟨by have := (hr r e).1; omega, (hr r e).2⟩), hd.late (by omega) hg' (fun j e => (hr j e).1)⟩)
    ?round ⟨hIV, hrc⟩).mono ?_
  case round =>
    rintro pre x W ⟨hi, hd⟩ hlen
    have hy := run_yield (P := P) (args := encs x) hd.l (by rw [hRp]; exact hps x)
    rw [hR] at hy
    refine ⟨fn, _, assign, body, hy, roundIn_of_wpIn hfn (hassign _ pre x W _ hlen hi fun a' U hkU hpU hiU hax => ?_)⟩
    have hdU := hd.from hkU
    refine ⟨_, run_beginRound hdU.l (hRs _ _), ?_⟩
    obtain ⟨R1, hR1⟩ : ∃ R1 : Loop, R1 = { R .ready none with state := .busy } := ⟨_, rfl⟩
    rw [← hR1]
    have hdB := hdU.turn R1
    have hpB : Kp U (U.putObj (w.heap.size + 1) (.loop R1)) := hKb _ _ _ _ (by omega) hdU.l rfl rfl
    refine wpIn_mono (hbody _ pre x a' _ (by omega) ⟨_, hdB.l⟩ (hI.putObj _ hiU (by omega) hdU.l rfl) ((hAx x a').putObj (s := ()) _ hax (by omega) hdU.l rfl) hlen) ?_
    have fin : ∀ (jump : Option Code) (Z : World), KA w.heap.size (U.putObj (w.heap.size + 1) (.loop R1)) Z →
        (Instr.endRound (w.heap.size + 1) jump).run P Z = .ok (.bool jump.isNone) (Z.putObj (w.heap.size + 1) (.loop (R (if jump.isNone then .ready else .done) jump))) ∧
        Rc w Z R1 ∧ Rc w (Z.putObj (w.heap.size + 1) (.loop (R (if jump.isNone then .ready else .done) jump))) (R (if jump.isNone then .ready else .done) jump) ∧
        KA V.heap.size W (Z.putObj (w.heap.size + 1) (.loop (R (if jump.isNone then .ready else .done) jump))) := fun jump Z hZ => by
      have hdZ := hdB.from hZ
      have hend := run_endRound (P := P) jump hdZ.l
      rw [hR1, hR] at hend
      refine ⟨?_, hdZ, hdZ.turn _, (((hkU.low (by omega)).trans (KA.put (by omega))).trans (hZ.low (by omega))).trans (KA.put (by omega))⟩
      rw [hR]
      exact hend
    rintro e a3 Z hp
    cases e with
    | normal =>
      obtain ⟨hkZ, hpZ, hiZ⟩ := hp
      obtain ⟨hr, hdZ, hdE, hkE⟩ := fin none Z hkZ
      exact ⟨_, _, hr, hkE, .inl ⟨rfl, ⟨hI.putObj _ hiZ (by omega) hdZ.l rfl, hdE⟩, hKt hpU (hKt (hKt hpB hpZ) (hKb _ _ _ _ (by omega) hdZ.l rfl rfl))⟩⟩
    | ret =>
      obtain ⟨hkZ, hiZ⟩ := hp
      obtain ⟨hr, hdZ, hdE, hkE⟩ := fin (some .ret) Z hkZ
      exact ⟨_, _, hr, hkE, .inr ⟨rfl, .ret, (hIx _).putObj _ hiZ (by omega) hdZ.l rfl, hdE⟩⟩
    | exit id =>
      obtain ⟨hkZ, hiZ⟩ := hp
      obtain ⟨hr, hdZ, hdE, hkE⟩ := fin (some (.exit id)) Z hkZ
      exact ⟨_, _, hr, hkE, .inr ⟨rfl, .exit id, (hIx _).putObj _ hiZ (by omega) hdZ.l rfl, hdE⟩⟩
    | goto t =>
      obtain ⟨hkZ, hiZ⟩ := hp
      obtain ⟨hr, hdZ, hdE, hkE⟩ := fin (some (.goto t)) Z hkZ
      exact ⟨_, _, hr, hkE, .inr ⟨rfl, .goto t, (hIx _).putObj _ hiZ (by omega) hdZ.l rfl, hdE⟩⟩
    | panic ch => exact hp.elim
    | outgrown => exact hp.elim
  rintro e Z ⟨⟨v, rfl⟩, (⟨xs, hS, hi, hd⟩ | ⟨pre, hSp, c, hi, hd⟩)⟩
  · refine ⟨none, _, (run_endLoop (P := P) hd.l (by rw [hRs]; simp)).trans (by rw [hR]), hdone _ xs _ (Nat.le_refl _) hS (hI.putObj _ hi (by omega) hd.l rfl) (hd.turn _).d⟩
  · refine ⟨some c, _, (run_endLoop (P := P) hd.l (by rw [hRs]; simp)).trans (by rw [hR]), hstop _ c pre _ (Nat.le_refl _) hSp ((hIx c).putObj _ hi (by omega) hd.l rfl) (hd.turn _).d⟩

/-- The same, where the loop variable lies in a box. -/
theorem wpIn_rangeFunc_runsB (B0 sl : Nat) (Box : World → Nat → α → Prop) {g : Operand} {ps : Array Tmp} {assign body : Code} {Q : Exit → Act → World → Prop} {a : Act}
    (hBox : ∀ x b W W' row, Box W b x → W.grownBy W' row → (∀ r, row = some r → ∃ o : Obj, W.heap[r]? = some o ∧ o.isCells = false) → Box W' b x)
    (hro : F.round = none) (h1 : 1 ≤ n) {gf : Nat} {lb : Array Value} (hg : a.eval g = .func (.func gf) #[] lb) (hFg : F.fn gf) (eg : ∀ args w, (callFunc gf args).run P w = .ok (.enter gf args) w)
    {encs : α → Array Value} {Kp : World → World → Prop} {ok : List α → α → Prop} {S Sp : List α → Prop} {w0 : World} (hseq : SeqRuns F (n - 1) P gf lb encs Kp ok S Sp w0)
    (hKt : ∀ {A B C : World}, Kp A B → Kp B C → Kp A C) (hKb : ∀ (W : World) (l : Nat) (o o' : Obj), w.heap.size ≤ l → W.heap[l]? = some o → o.isCells = false → o.isWalk = false → Kp W (W.putObj l o')) (hb0 : Below w0.heap.size w0 w) (hps : ∀ x, (encs x).size = ps.size)
    (I : List α → World → Prop) (Ix : Code → List α → World → Prop) (hI : OwnFrom w.heap.size I) (hIx : ∀ c, OwnFrom w.heap.size (Ix c)) (h0 : I [] w)
    (hassign : ∀ (l : Nat) (pre : List α) (x : α) (W : World) (K : Act → World → Prop), ok pre x → I pre W → (∀ b W', B0 ≤ b → KA w.heap.size W W' → Kp W W' → I pre W' → Box W' b x → K (boxFrame a ps encs sl b x) W') →
      assign.wpIn (F.inRound l) (n - 1 - 1) P (Exit.then K (fun _ _ _ => False)) { tmps := (ps.zip (encs x)).foldl (fun t (p, v) => t.setIfInBounds p v) a.tmps, defers := [] } W)
    (hbody : ∀ (l : Nat) (pre : List α) (x : α) (b : Nat) (W : World), w.heap.size ≤ l → (∃ r, W.heap[l]? = some (.loop r)) → I pre W → B0 ≤ b → Box W b x → ok pre x → body.wpIn (F.inRound l) (n - 1 - 1) P (runPost w.heap.size Kp I Ix (pre ++ [x]) W) (boxFrame a ps encs sl b x) W)
    (hdone : ∀ (D : Nat) (xs : List α) (W : World), w.heap.size ≤ D → S xs → I xs W → W.heap[D]? = some (.deferred (some [])) → Q .normal { a with defers := { target := .collected D, args := #[] } :: a.defers } W)
    (hstop : ∀ (D : Nat) (c : Code) (pre : List α) (W : World), w.heap.size ≤ D → Sp pre → Ix c pre W → W.heap[D]? = some (.deferred (some [])) → c.wpIn F n P Q { a with defers := { target := .collected D, args := #[] } :: a.defers } W) :
    (Code.rangeFunc g ps assign body).wpIn F n P Q a w :=
  wpIn_rangeFunc_runs hro h1 hg hFg eg hseq hKt hKb hb0 hps I Ix hI hIx h0 (fun x a' W => ∃ b, B0 ≤ b ∧ Box W b x ∧ a' = boxFrame a ps encs sl b x)
    (fun x _ _ _ _ _ hs hg hr => by
      obtain ⟨b, h1, h2, h3⟩ := hs
      exact ⟨b, h1, hBox x b _ _ _ h2 hg (fun r e => (hr r e).2), h3⟩)
    (fun l pre x W K ho hi hK => hassign l pre x W K ho hi (fun b W' h1 h2 h3 h4 h5 => hK _ _ h2 h3 h4 ⟨b, h1, h5, rfl⟩))
    (fun l pre x a' W hl hr hi hx hlen => by
      obtain ⟨b, h1, h2, rfl⟩ := hx
      exact hbody l pre x b W hl hr hi h1 h2 hlen)
    hdone hstop
/-- The like within a round: one block. -/
structure Rn (w W : World) (r : Loop) : Prop where
  l : W.heap[w.heap.size]? = some (.loop r)
theorem Rn.lt {W : World} {r : Loop} (h : Rn w W r) : w.heap.size < W.heap.size := lt_of h.l
theorem Rn.from {W W' : World} {r : Loop} (h : Rn w W r) (k : KA w.heap.size W W') : Rn w W' r := ⟨(k.same _ (Nat.le_refl _) h.lt).trans h.l⟩
theorem Rn.turn {W : World} {r : Loop} (h : Rn w W r) (r' : Loop) : Rn w (W.putObj w.heap.size (.loop r')) r' := ⟨World.putObj_heap_same h.lt⟩
theorem Rn.late {W W' : World} {r : Loop} {row : Option Nat} {B : Nat} (h : Rn w W r) (hB : w.heap.size < B) (hg : W.grownBy W' row) (hr : ∀ j, row = some j → B ≤ j) : Rn w W' r :=
  ⟨(hg.block _ h.lt (fun e => by have := hr _ e.symm; omega)).trans h.l⟩
/-- The loop over such an iterator, within a round of loop l₀. -/
theorem wpIn_rangeFunc_runsN {g : Operand} {ps : Array Tmp} {assign body : Code} {Q : Exit → Act → World → Prop} {a : Act}
    {l₀ : Nat} {r₀ : Loop} (hro : F.round = some l₀) (hl₀ : w.heap[l₀]? = some (.loop r₀)) (h1 : 1 ≤ n) {gf : Nat} {lb : Array Value} (hg : a.eval g = .func (.func gf) #[] lb) (hFg : F.fn gf) (eg : ∀ args w, (callFunc gf args).run P w = .ok (.enter gf args) w)
    {encs : α → Array Value} {Kp : World → World → Prop} {ok : List α → α → Prop} {S Sp : List α → Prop} {w0 : World} (hseq : SeqRuns F (n - 1) P gf lb encs Kp ok S Sp w0)
    (hKt : ∀ {A B C : World}, Kp A B → Kp B C → Kp A C) (hKb : ∀ (W : World) (l : Nat) (o o' : Obj), w.heap.size ≤ l → W.heap[l]? = some o → o.isCells = false → o.isWalk = false → Kp W (W.putObj l o')) (hb0 : Below w0.heap.size w0 w) (hps : ∀ x, (encs x).size = ps.size)
    (I : List α → World → Prop) (Ix : Code → List α → World → Prop) (hI : OwnFrom w.heap.size I) (hIx : ∀ c, OwnFrom w.heap.size (Ix c)) (h0 : I [] w) (Ax : α → Act → World → Prop) (hAx : ∀ x a', OwnFrom w.heap.size (fun (_ : Unit) W => Ax x a' W))
    (hassign : ∀ (l : Nat) (pre : List α) (x : α) (W : World) (K : Act → World → Prop), ok pre x → I pre W → (∀ a' W', KA w.heap.size W W' → Kp W W' → I pre W' → Ax x a' W' → K a' W') →
      assign.wpIn (F.inRound l) (n - 1 - 1) P (Exit.then K (fun _ _ _ => False)) { tmps := (ps.zip (encs x)).foldl (fun t (p, v) => t.setIfInBounds p v) a.tmps, defers := [] } W)
    (hbody : ∀ (l : Nat) (pre : List α) (x : α) (a' : Act) (W : World), w.heap.size ≤ l → (∃ r, W.heap[l]? = some (.loop r)) → I pre W → Ax x a' W → ok pre x → body.wpIn (F.inRound l) (n - 1 - 1) P (runPost w.heap.size Kp I Ix (pre ++ [x]) W) a' W)
    (hdone : ∀ (xs : List α) (W : World), S xs → I xs W → Q .normal a W)
    (hstop : ∀ (c : Code) (pre : List α) (W : World), Sp pre → Ix c pre W → c.wpIn F n P Q a W) :
    (Code.rangeFunc g ps assign body).wpIn F n P Q a w := by
  refine wpIn_rangeFunc fun fn hfn => ?_
  rw [hro]
  obtain ⟨R, hR⟩ : ∃ R : LoopState → Option Code → Loop, R = fun st pe => { state := st, pending := pe, fn, tmps := a.tmps, params := ps, assign, body, defers := r₀.defers } := ⟨_, rfl⟩
  have hRp : ∀ st pe, (R st pe).params = ps := fun st pe => by rw [hR]
  have hRs : ∀ st pe, (R st pe).state = st := fun st pe => by rw [hR]
  obtain ⟨V, hV⟩ : ∃ V, w.alloc (.loop (R .ready none)) = V := ⟨_, rfl⟩
  have hsz : V.heap.size = w.heap.size + 1 := by rw [← hV]; simp
  have hrc : Rn w V (R .ready none) := by
    rw [← hV]
    exact ⟨alNew rfl⟩
  have hIV : I [] V := by rw [← hV]; exact hI.alloc _ h0
  have hbV : Below w0.heap.size w0 V := by
    rw [← hV]; exact hb0.trans (((Below.refl _ w).alloc (Nat.le_refl _) _).mono hb0.size)
  refine ⟨w.heap.size, [], V, { target := .fn (.func gf) lb, args := #[.func (.yield w.heap.size) #[] #[]] }, V, gf,
    #[.func (.yield w.heap.size) #[] #[]] ++ lb, V, ?_, ?_, ?_, ?_, fun _ => h1, ?_⟩
  · rw [← hV, hR]; exact run_enterLoop_inner hl₀ _ _ _ _ _
  · simp only [resolve, hg]
    simp [go_sem]
  · intro f' hf'; simp [Target.leads] at hf'; subst hf'; exact hFg
  · simp [invoke, go_sem, eg]
  refine (hseq w.heap.size (fun pre W => I pre W ∧ Rn w W (R .ready none)) (fun pre W => ∃ c, Ix c pre W ∧ Rn w W (R .done (some c))) V hbV (by omega)
    (fun s A B row hs hg' hr => ⟨hI s A B row hs.1 hg' (fun r e => ⟨by have := (hr r e).1; omega, (hr r e).2⟩), hs.2.late (by omega) hg' (fun j e => (hr j e).1)⟩)
    (fun s A B row hs hg' hr => by
      obtain ⟨c, hc, hd⟩ := hs
      exact ⟨c, hIx c s A B row hc hg' (fun r e => ⟨by have := (hr r e).1; omega, (hr r e).2⟩), hd.late (by omega) hg' (fun j e => (hr j e).1)⟩)
    ?round ⟨hIV, hrc⟩).mono ?_
  case round =>
    rintro pre x W ⟨hi, hd⟩ hlen
    have hy := run_yield (P := P) (args := encs x) hd.l (by rw [hRp]; exact hps x)
    rw [hR] at hy
    refine ⟨fn, _, assign, body, hy, roundIn_of_wpIn hfn (hassign _ pre x W _ hlen hi fun a' U hkU hpU hiU hax => ?_)⟩
    have hdU := hd.from hkU
    refine ⟨_, run_beginRound hdU.l (hRs _ _), ?_⟩
    obtain ⟨R1, hR1⟩ : ∃ R1 : Loop, R1 = { R .ready none with state := .busy } := ⟨_, rfl⟩
    rw [← hR1]
    have hdB := hdU.turn R1
    have hpB : Kp U (U.putObj w.heap.size (.loop R1)) := hKb _ _ _ _ (by omega) hdU.l rfl rfl
    refine wpIn_mono (hbody _ pre x a' _ (by omega) ⟨_, hdB.l⟩ (hI.putObj _ hiU (by omega) hdU.l rfl) ((hAx x a').putObj (s := ()) _ hax (by omega) hdU.l rfl) hlen) ?_
    have fin : ∀ (jump : Option Code) (Z : World), KA w.heap.size (U.putObj w.heap.size (.loop R1)) Z →
        (Instr.endRound w.heap.size jump).run P Z = .ok (.bool jump.isNone) (Z.putObj w.heap.size (.loop (R (if jump.isNone then .ready else .done) jump))) ∧
        Rn w Z R1 ∧ Rn w (Z.putObj w.heap.size (.loop (R (if jump.isNone then .ready else .done) jump))) (R (if jump.isNone then .ready else .done) jump) ∧
        KA V.heap.size W (Z.putObj w.heap.size (.loop (R (if jump.isNone then .ready else .done) jump))) := fun jump Z hZ => by
      have hdZ := hdB.from hZ
      have hend := run_endRound (P := P) jump hdZ.l
      rw [hR1, hR] at hend
      refine ⟨?_, hdZ, hdZ.turn _, (((hkU.low (by omega)).trans (KA.put (by omega))).trans (hZ.low (by omega))).trans (KA.put (by omega))⟩
      rw [hR]
      exact hend
    rintro e a3 Z hp
    cases e with
    | normal =>
      obtain ⟨hkZ, hpZ, hiZ⟩ := hp
      obtain ⟨hr, hdZ, hdE, hkE⟩ := fin none Z hkZ
      exact ⟨_, _, hr, hkE, .inl ⟨rfl, ⟨hI.putObj _ hiZ (by omega) hdZ.l rfl, hdE⟩, hKt hpU (hKt (hKt hpB hpZ) (hKb _ _ _ _ (by omega) hdZ.l rfl rfl))⟩⟩
    | ret =>
      obtain ⟨hkZ, hiZ⟩ := hp
      obtain ⟨hr, hdZ, hdE, hkE⟩ := fin (some .ret) Z hkZ
      exact ⟨_, _, hr, hkE, .inr ⟨rfl, .ret, (hIx _).putObj _ hiZ (by omega) hdZ.l rfl, hdE⟩⟩
    | exit id =>
      obtain ⟨hkZ, hiZ⟩ := hp
      obtain ⟨hr, hdZ, hdE, hkE⟩ := fin (some (.exit id)) Z hkZ
      exact ⟨_, _, hr, hkE, .inr ⟨rfl, .exit id, (hIx _).putObj _ hiZ (by omega) hdZ.l rfl, hdE⟩⟩
    | goto t =>
      obtain ⟨hkZ, hiZ⟩ := hp
      obtain ⟨hr, hdZ, hdE, hkE⟩ := fin (some (.goto t)) Z hkZ
      exact ⟨_, _, hr, hkE, .inr ⟨rfl, .goto t, (hIx _).putObj _ hiZ (by omega) hdZ.l rfl, hdE⟩⟩
    | panic ch => exact hp.elim
    | outgrown => exact hp.elim
  rintro e Z ⟨⟨v, rfl⟩, (⟨xs, hS, hi, hd⟩ | ⟨pre, hSp, c, hi, hd⟩)⟩
  · refine ⟨none, _, (run_endLoop (P := P) hd.l (by rw [hRs]; simp)).trans (by rw [hR]), hdone xs _ hS (hI.putObj _ hi (by omega) hd.l rfl)⟩
  · refine ⟨some c, _, (run_endLoop (P := P) hd.l (by rw [hRs]; simp)).trans (by rw [hR]), hstop c pre _ hSp ((hIx c).putObj _ hi (by omega) hd.l rfl)⟩

/-- The same within a round. -/
theorem wpIn_rangeFunc_runsNB (B0 sl : Nat) (Box : World → Nat → α → Prop) {g : Operand} {ps : Array Tmp} {assign body : Code} {Q : Exit → Act → World → Prop} {a : Act}
    (hBox : ∀ x b W W' row, Box W b x → W.grownBy W' row → (∀ r, row = some r → ∃ o : Obj, W.heap[r]? = some o ∧ o.isCells = false) → Box W' b x)
    {l₀ : Nat} {r₀ : Loop} (hro : F.round = some l₀) (hl₀ : w.heap[l₀]? = some (.loop r₀)) (h1 : 1 ≤ n) {gf : Nat} {lb : Array Value} (hg : a.eval g = .func (.func gf) #[] lb) (hFg : F.fn gf) (eg : ∀ args w, (callFunc gf args).run P w = .ok (.enter gf args) w)
    {encs : α → Array Value} {Kp : World → World → Prop} {ok : List α → α → Prop} {S Sp : List α → Prop} {w0 : World} (hseq : SeqRuns F (n - 1) P gf lb encs Kp ok S Sp w0)
    (hKt : ∀ {A B C : World}, Kp A B → Kp B C → Kp A C) (hKb : ∀ (W : World) (l : Nat) (o o' : Obj), w.heap.size ≤ l → W.heap[l]? = some o → o.isCells = false → o.isWalk = false → Kp W (W.putObj l o')) (hb0 : Below w0.heap.size w0 w) (hps : ∀ x, (encs x).size = ps.size)
    (I : List α → World → Prop) (Ix : Code → List α → World → Prop) (hI : OwnFrom w.heap.size I) (hIx : ∀ c, OwnFrom w.heap.size (Ix c)) (h0 : I [] w)
    (hassign : ∀ (l : Nat) (pre : List α) (x : α) (W : World) (K : Act → World → Prop), ok pre x → I pre W → (∀ b W', B0 ≤ b → KA w.heap.size W W' → Kp W W' → I pre W' → Box W' b x → K (boxFrame a ps encs sl b x) W') →
      assign.wpIn (F.inRound l) (n - 1 - 1) P (Exit.then K (fun _ _ _ => False)) { tmps := (ps.zip (encs x)).foldl (fun t (p, v) => t.setIfInBounds p v) a.tmps, defers := [] } W)
    (hbody : ∀ (l : Nat) (pre : List α) (x : α) (b : Nat) (W : World), w.heap.size ≤ l → (∃ r, W.heap[l]? = some (.loop r)) → I pre W → B0 ≤ b → Box W b x → ok pre x → body.wpIn (F.inRound l) (n - 1 - 1) P (runPost w.heap.size Kp I Ix (pre ++ [x]) W) (boxFrame a ps encs sl b x) W)
    (hdone : ∀ (xs : List α) (W : World), S xs → I xs W → Q .normal a W)
    (hstop : ∀ (c : Code) (pre : List α) (W : World), Sp pre → Ix c pre W → c.wpIn F n P Q a W) :
    (Code.rangeFunc g ps assign body).wpIn F n P Q a w :=
  wpIn_rangeFunc_runsN hro hl₀ h1 hg hFg eg hseq hKt hKb hb0 hps I Ix hI hIx h0 (fun x a' W => ∃ b, B0 ≤ b ∧ Box W b x ∧ a' = boxFrame a ps encs sl b x)
    (fun x _ _ _ _ _ hs hg hr => by
      obtain ⟨b, h1, h2, h3⟩ := hs
      exact ⟨b, h1, hBox x b _ _ _ h2 hg (fun r e => (hr r e).2), h3⟩)
    (fun l pre x W K ho hi hK => hassign l pre x W K ho hi (fun b W' h1 h2 h3 h4 h5 => hK _ _ h2 h3 h4 ⟨b, h1, h5, rfl⟩))
    (fun l pre x a' W hl hr hi hx hlen => by
      obtain ⟨b, h1, h2, rfl⟩ := hx
      exact hbody l pre x b W hl hr hi h1 h2 hlen)
    hdone hstop
end

end Go.Proofs.YtkfnjpmigifomaaDoor
