/- What this text holds: two monitors side by side, with boxes that no call of them turns. No condition. -/
import Derived.Test.YtjggnhcdnfmmeaaPl14
import Derived.ChangeKeysEq
namespace Go.Proofs.Ytjggnhcdnfmmeaa
open Go.RowKit Go.Maps

/-- Two monitors of the law's own, and boxes. -/
structure Tw (w W : World) (p t g b M : Nat) (s : Ms) (p' t' g' b' M' : Nat) (s' : Ms) (bs : List (Nat × Obj)) : Prop where
  m : ∃ B, Mn W B p t g b 2 M s ∧ w.heap.size ≤ B
  n : ∃ B, Mn W B p' t' g' b' 2 M' s' ∧ w.heap.size ≤ B ∧ p < B ∧ t < B ∧ g < B ∧ b < B
  be : Below w.heap.size w W
  bx : ∀ x ∈ bs, W.heap[x.1]? = some x.2 ∧ x.1 ≠ g ∧ x.1 ≠ b ∧ x.1 ≠ g' ∧ x.1 ≠ b'
section
variable {w W W' : World} {p t g b M M1 : Nat} {s s1 : Ms} {p' t' g' b' M' : Nat} {s' : Ms} {bs : List (Nat × Obj)}
theorem Tw.ext (h : Tw w W p t g b M s p' t' g' b' M' s' bs) (hb : Below W.heap.size W W') : Tw w W' p t g b M s p' t' g' b' M' s' bs := by
  obtain ⟨⟨B, m1, m2⟩, ⟨B', n1, n2⟩, be, bx⟩ := h
  exact ⟨⟨B, m1.ext hb, m2⟩, ⟨B', n1.ext hb, n2⟩, ext_trans be hb, fun x hx => ⟨(hb.block _ (lt_of (bx x hx).1)).trans (bx x hx).1, (bx x hx).2⟩⟩
theorem Tw.goM (h : Tw w W p t g b M s p' t' g' b' M' s' bs) (h1 : ∀ B, Mn W B p t g b 2 M s → Mn W' B p t g b 2 M1 s1) (h2 : Gt W W' g b) : Tw w W' p t g b M1 s1 p' t' g' b' M' s' bs := by
  obtain ⟨⟨B, m1, m2⟩, ⟨B', n1, n2⟩, be, bx⟩ := h
  refine ⟨⟨B, h1 B m1, m2⟩, ⟨B', n1.far h2 (fun x hx => ?_), n2⟩, h2.below be (Nat.le_trans m2 m1.lo.2.2.1) (Nat.le_trans m2 m1.lo.2.2.2), fun x hx => ⟨(h2.block _ (lt_of (bx x hx).1) (bx x hx).2.1 (bx x hx).2.2.1).trans (bx x hx).1, (bx x hx).2⟩⟩
  have := n1.lo
  rcases hx with rfl | rfl | rfl | rfl <;> omega
theorem Tw.goN (h : Tw w W p t g b M s p' t' g' b' M' s' bs) (h1 : ∀ B, Mn W B p' t' g' b' 2 M' s' → Mn W' B p' t' g' b' 2 M1 s1) (h2 : Gt W W' g' b') : Tw w W' p t g b M s p' t' g' b' M1 s1 bs := by
  obtain ⟨⟨B, m1, m2⟩, ⟨B', n1, n2⟩, be, bx⟩ := h
  have hlo := n1.lo
  refine ⟨⟨B, m1.far h2 (fun x hx => ?_), m2⟩, ⟨B', h1 B' n1, n2⟩, h2.below be (by omega) (by omega), fun x hx => ⟨(h2.block _ (lt_of (bx x hx).1) (bx x hx).2.2.2.1 (bx x hx).2.2.2.2).trans (bx x hx).1, (bx x hx).2⟩⟩
  rcases hx with rfl | rfl | rfl | rfl <;> omega
theorem Tw.push (h : Tw w W p t g b M s p' t' g' b' M' s' bs) (o : Obj) : Tw w (W.alloc o) p t g b M s p' t' g' b' M' s' ((W.heap.size, o) :: bs) := by
  have h2 := h.ext (ext_alloc o (Below.refl _ W))
  obtain ⟨B, m1, m2⟩ := h.m
  obtain ⟨B', n1, n2⟩ := h.n
  refine ⟨h2.m, h2.n, h2.be, fun x hx => ?_⟩
  rcases List.mem_cons.1 hx with rfl | hx
  · have := m1.lt
    have := n1.lt
    exact ⟨alNew rfl, by show W.heap.size ≠ g; omega, by show W.heap.size ≠ b; omega, by show W.heap.size ≠ g'; omega, by show W.heap.size ≠ b'; omega⟩
  · exact h2.bx x hx
theorem Tw.callM (h : Tw w W p t g b M s p' t' g' b' M' s' bs) (hM : M < 1000) (a : Ak) : Calls Try.prog 30 #[.pointer (some ⟨p, 0, none⟩), a.val] W fun e W' => e = .returned (.tuple #[.bool ((s.call 2 a).1 == 0), .int .i64 (s.call 2 a).1]) ∧ Tw w W' p t g b (M + 1) (s.call 2 a).2 p' t' g' b' M' s' bs := by
  obtain ⟨B, m1, m2⟩ := h.m
  refine (mcall_any m1 hM a).mono fun e W' ⟨he, h1, h2⟩ => ⟨he, h.goM (fun B2 hm => ?_) h2⟩
  exact ⟨h1.ok, h1.hn, h1.box, h1.tb, h1.mp, h1.ne, hm.lo⟩
theorem Tw.callN (h : Tw w W p t g b M s p' t' g' b' M' s' bs) (hM : M' < 1000) (a : Ak) : Calls Try.prog 30 #[.pointer (some ⟨p', 0, none⟩), a.val] W fun e W' => e = .returned (.tuple #[.bool ((s'.call 2 a).1 == 0), .int .i64 (s'.call 2 a).1]) ∧ Tw w W' p t g b M s p' t' g' b' (M' + 1) (s'.call 2 a).2 bs := by
  obtain ⟨B, m1, m2⟩ := h.n
  refine (mcall_any m1 hM a).mono fun e W' ⟨he, h1, h2⟩ => ⟨he, h.goN (fun B2 hm => ?_) h2⟩
  exact ⟨h1.ok, h1.hn, h1.box, h1.tb, h1.mp, h1.ne, hm.lo⟩
theorem Tw.dropM (h : Tw w W p t g b M s p' t' g' b' M' s' bs) (hM : M < 1000) (k co : Int) : Calls Try.prog 31 #[.pointer (some ⟨p, 0, none⟩), .int .i64 k, .int .i64 co] W fun e W' => (∃ x r, e = .returned (.tuple #[.bool x, .int .i64 r])) ∧ Tw w W' p t g b (M + 1) (s.drop 2 k co).2.2 p' t' g' b' M' s' bs := by
  obtain ⟨B, m1, m2⟩ := h.m
  refine (mdrop_any m1 hM k co).mono fun e W' ⟨he, h1, h2⟩ => ⟨⟨_, _, he⟩, h.goM (fun B2 hm => ?_) h2⟩
  exact ⟨h1.ok, h1.hn, h1.box, h1.tb, h1.mp, h1.ne, hm.lo⟩
theorem Tw.dropN (h : Tw w W p t g b M s p' t' g' b' M' s' bs) (hM : M' < 1000) (k co : Int) : Calls Try.prog 31 #[.pointer (some ⟨p', 0, none⟩), .int .i64 k, .int .i64 co] W fun e W' => (∃ x r, e = .returned (.tuple #[.bool x, .int .i64 r])) ∧ Tw w W' p t g b M s p' t' g' b' (M' + 1) (s'.drop 2 k co).2.2 bs := by
  obtain ⟨B, m1, m2⟩ := h.n
  refine (mdrop_any m1 hM k co).mono fun e W' ⟨he, h1, h2⟩ => ⟨⟨_, _, he⟩, h.goN (fun B2 hm => ?_) h2⟩
  exact ⟨h1.ok, h1.hn, h1.box, h1.tb, h1.mp, h1.ne, hm.lo⟩
theorem Tw.sweptM (h : Tw w W p t g b M s p' t' g' b' M' s' bs) (k : Int) : Calls Try.prog 32 #[.pointer (some ⟨p, 0, none⟩), .int .i64 k] W fun e W' => e = .returned (.tuple #[(s.swept k).1.val, .int .i64 (s.swept k).2.1]) ∧ Tw w W' p t g b M (s.swept k).2.2 p' t' g' b' M' s' bs := by
  obtain ⟨B, m1, m2⟩ := h.m
  refine (mswept_any m1 k).mono fun e W' ⟨he, h1, h2⟩ => ⟨he, h.goM (fun B2 hm => ?_) h2⟩
  exact ⟨h1.ok, h1.hn, h1.box, h1.tb, h1.mp, h1.ne, hm.lo⟩
theorem Tw.sweptN (h : Tw w W p t g b M s p' t' g' b' M' s' bs) (k : Int) : Calls Try.prog 32 #[.pointer (some ⟨p', 0, none⟩), .int .i64 k] W fun e W' => e = .returned (.tuple #[(s'.swept k).1.val, .int .i64 (s'.swept k).2.1]) ∧ Tw w W' p t g b M s p' t' g' b' M' (s'.swept k).2.2 bs := by
  obtain ⟨B, m1, m2⟩ := h.n
  refine (mswept_any m1 k).mono fun e W' ⟨he, h1, h2⟩ => ⟨he, h.goN (fun B2 hm => ?_) h2⟩
  exact ⟨h1.ok, h1.hn, h1.box, h1.tb, h1.mp, h1.ne, hm.lo⟩
end
def Ak.obj (a : Ak) : Obj := .cells #[.int .i64 a.co, .int .i64 a.wo, .int .i64 a.ca, .int .i64 a.gr, .int .i64 a.to] 70 (0, 0)
def Td.obj (x : Td) : Obj := .cells #[.int .i64 x.a.co, .int .i64 x.a.wo, .int .i64 x.a.ca, .int .i64 x.a.gr, .int .i64 x.a.to, .int .i64 x.th, .bool x.sc] 81 (0, 0)
theorem ask_at {W : World} {X : Nat} {a : Ak} (h : W.heap[X]? = some a.obj) : W.cell? ⟨X, 0, none⟩ = some (.int .i64 a.co) ∧ W.cell? ⟨X, 1, none⟩ = some (.int .i64 a.wo) ∧ W.cell? ⟨X, 2, none⟩ = some (.int .i64 a.ca) ∧ W.cell? ⟨X, 3, none⟩ = some (.int .i64 a.gr) ∧ W.cell? ⟨X, 4, none⟩ = some (.int .i64 a.to) ∧ (∀ i, W.frozen? ⟨X, i, none⟩ = false) ∧ X < W.heap.size := by
  unfold Ak.obj at h
  refine ⟨?_, ?_, ?_, ?_, ?_, fun i => ?_, lt_of h⟩ <;> simp [World.cell?, World.frozen?, h]
theorem told_at {W : World} {X : Nat} {x : Td} (h : W.heap[X]? = some x.obj) : W.cell? ⟨X, 0, none⟩ = some (.int .i64 x.a.co) ∧ W.cell? ⟨X, 1, none⟩ = some (.int .i64 x.a.wo) ∧ W.cell? ⟨X, 2, none⟩ = some (.int .i64 x.a.ca) ∧ W.cell? ⟨X, 3, none⟩ = some (.int .i64 x.a.gr) ∧ W.cell? ⟨X, 4, none⟩ = some (.int .i64 x.a.to) ∧ W.cell? ⟨X, 5, none⟩ = some (.int .i64 x.th) ∧ W.cell? ⟨X, 6, none⟩ = some (.bool x.sc) ∧ X < W.heap.size := by
  unfold Td.obj at h
  refine ⟨?_, ?_, ?_, ?_, ?_, ?_, ?_, lt_of h⟩ <;> simp [World.cell?, h]
theorem neqTd (w : World) (a0 a1 a2 a3 a4 a5 : Int) (a6 : Bool) : (binOp .neq 81 (.agg #[.int .i64 a0, .int .i64 a1, .int .i64 a2, .int .i64 a3, .int .i64 a4, .int .i64 a5, .bool a6]) (.agg #[.int .i64 a0, .int .i64 a1, .int .i64 a2, .int .i64 a3, .int .i64 a4, .int .i64 a5, .bool a6])).run Try.prog w = .ok (.bool false) w := by
  go_simp
theorem eqTd (w : World) (a0 a1 a2 a3 a4 a5 : Int) (a6 : Bool) : (binOp .eql 81 (.agg #[.int .i64 a0, .int .i64 a1, .int .i64 a2, .int .i64 a3, .int .i64 a4, .int .i64 a5, .bool a6]) (.agg #[.int .i64 a0, .int .i64 a1, .int .i64 a2, .int .i64 a3, .int .i64 a4, .int .i64 a5, .bool a6])).run Try.prog w = .ok (.bool true) w := by
  go_simp
theorem neqEn (w : World) (a0 : Int) (a1 : Bool) : (binOp .neq 55 (.agg #[.int .i64 a0, .bool a1]) (.agg #[.int .i64 a0, .bool a1])).run Try.prog w = .ok (.bool false) w := by
  go_simp
theorem eqEn (w : World) (a0 : Int) (a1 : Bool) : (binOp .eql 55 (.agg #[.int .i64 a0, .bool a1]) (.agg #[.int .i64 a0, .bool a1])).run Try.prog w = .ok (.bool true) w := by
  go_simp

end Go.Proofs.Ytjggnhcdnfmmeaa
