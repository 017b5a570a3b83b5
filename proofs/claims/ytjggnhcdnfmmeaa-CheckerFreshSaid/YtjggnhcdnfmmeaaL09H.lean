/- What this text holds: the law CheckerFresh: each turn's calls at a checker beside a table. No condition. -/
import Derived.Test.YtjggnhcdnfmmeaaL09G
namespace Go.Proofs.Ytjggnhcdnfmmeaa
open Go.RowKit

/-- What lies in X lies as it lay, but for the table's entries. -/
def Kg (X : Nat → Prop) (gt : Nat) (w w' : World) : Prop := w.heap.size ≤ w'.heap.size ∧ ∀ k, X k → k ≠ gt → w'.heap[k]? = w.heap[k]?
theorem Kg.kp {X : Nat → Prop} {gt : Nat} {w w' : World} (h : Kp X w w') : Kg X gt w w' := ⟨h.size, fun k hk _ => h.block k hk⟩
theorem Kg.trans {X : Nat → Prop} {gt : Nat} {a b c : World} (h : Kg X gt a b) (k : Kg X gt b c) : Kg X gt a c := ⟨Nat.le_trans h.1 k.1, fun q h1 h2 => (k.2 q h1 h2).trans (h.2 q h1 h2)⟩

section
variable (X : Nat → Prop) (n : Int) (m : Nat) (w0 w : World) (p pt gt : Nat) (v : Value) (s : CkS) (es : List En)

theorem fwalked (pl wd : Int) (hL : Lr X n m w0 w p pt gt v s es) (hF : Fr m s es true pl true wd) :
    Calls Try.prog 19 #[.pointer (some ⟨p, 0, none⟩), .int .i64 pl, .int .i64 wd] w fun e w' => ∃ nx ov, e = .returned (.tuple #[.int .i64 nx, .bool ov, .int .i64 0]) ∧ ∃ v' s', Lr X n m w0 w' p pt gt v' s' es ∧ Fr m s' es (!ov) nx false wd ∧ Kg X gt w w' := by
  have hf := hL.co.fine
  have hw : s.wk = true := hF.ask.symm
  obtain rfl := hF.pl rfl
  obtain ⟨g0, g1, g2, g3⟩ := hf.walk hw
  have hm1 := hf.m1
  have hm16 := hf.m16
  have hgr := hf.gr
  cases hs : s.st
  · have hwo := hF.rd rfl rfl hs
    obtain ⟨k, hk⟩ := Int.eq_ofNat_of_zero_le g0
    have hkl : k < es.length := by rw [hF.len]; omega
    have hen := hf.en
    have hn1 := hf.n1
    have hkl8 : s.ks.length ≤ 90 := by have := hf.len; have := hf.n8; omega
    have hlearn : ∀ o, atE es s.g.toNat = (o, false) → (∀ w, Calls Try.prog 44 #[.int .i64 s.gr, .int .i64 s.g, .int .i64 s.a, .int .i64 wd] w fun e w' => e = .returned (.tuple #[.int .i64 0, .agg #[.int .i64 o, .bool false], .bool true, .int .i64 0]) ∧ Below w.heap.size w w') →
        Calls Try.prog 19 #[.pointer (some ⟨p, 0, none⟩), .int .i64 s.a, .int .i64 wd] w fun e w' => ∃ nx ov, e = .returned (.tuple #[.int .i64 nx, .bool ov, .int .i64 0]) ∧ ∃ v' s', Lr X n m w0 w' p pt gt v' s' es ∧ Fr m s' es (!ov) nx false wd ∧ Kg X gt w w' := fun o ho hN => by
      have hgo := hF.good k hkl
      rw [hk, Int.toNat_natCast] at ho
      rw [ho] at hgo
      refine (cwalked_learn p v s wd o w hL.co.ck hw hs g0 (by omega) hN hkl8 (by omega)).mono ?_
      rintro e w' ⟨rfl, v', hC, hT, hn⟩
      have hm := hL.co.move hC (hf.learnt hw hgo.1 hgo.2) hT hn
      exact ⟨0, true, rfl, v', _, hL.move hm, hF.learnt (o := o) (by rw [hk, Int.toNat_natCast]; exact ho), Kg.kp hm.2⟩
    rcases hwo with ⟨ha, hwd | ⟨o, hwd, ho⟩⟩ | ⟨ha, hwd⟩
    · refine (cwalked_more p v s wd ((m + 3) / 4 + s.g) w hL.co.ck hw hs g0 (by omega) (fun w => by
        rw [hgr]
        exact next_more m s.g s.a wd w (by omega) (by omega) g0 (by omega) ha hwd)).mono ?_
      rintro e w' ⟨rfl, hC, hg⟩
      have hm := hL.co.move hC hf.at2 (Tc.of_grown hg) (fun g hg => .inl hg)
      exact ⟨_, false, rfl, v, _, hL.move hm, hF.at _ s.st, Kg.kp hm.2⟩
    · refine hlearn o ho (fun w => ?_)
      have hgo := hF.good k hkl
      rw [hk, Int.toNat_natCast] at ho
      rw [ho] at hgo
      exact next_plain s.gr s.g s.a wd o w (by omega) (by omega) g0 (by omega) ha hwd hgo.1 hgo.2
    · have hgo := hF.good k hkl
      have hN : ∀ w, Calls Try.prog 44 #[.int .i64 s.gr, .int .i64 s.g, .int .i64 s.a, .int .i64 wd] w fun e w' => e = .returned (.tuple #[.int .i64 0, .agg #[.int .i64 (atE es k).1, .bool (atE es k).2], .bool true, .int .i64 0]) ∧ Below w.heap.size w w' := fun w =>
        next_own s.gr s.g s.a wd (atE es k).1 (atE es k).2 w (by omega) (by omega) g0 (by omega) (by rw [hgr]; exact ha) (by rw [hwd, hk, Int.toNat_natCast]) hgo.1 hgo.2
      cases hlk : (atE es k).2
      · rw [hlk] at hN
        exact hlearn (atE es k).1 (by rw [hk, Int.toNat_natCast, ← hlk]) hN
      · rw [hlk] at hN
        refine (cwalked_locked p v s wd (atE es k).1 w hL.co.ck hw hs g0 (by omega) hN).mono ?_
        rintro e w' ⟨rfl, hC, hg⟩
        have hm := hL.co.move hC (hf.at1 s.st) (Tc.of_grown hg) (fun g hg => .inl hg)
        exact ⟨_, false, rfl, v, _, hL.move hm, hF.at _ s.st, Kg.kp hm.2⟩
  · refine (cwalked_stale p v s wd w hL.co.ck hw hs g0 (by omega)).mono ?_
    rintro e w' ⟨rfl, hC, hg⟩
    have hm := hL.co.move hC (hf.at1 false) (Tc.of_grown hg) (fun g hg => .inl hg)
    exact ⟨_, false, rfl, v, _, hL.move hm, hF.at _ false, Kg.kp hm.2⟩

theorem fword (pl : Int) (rd : Bool) (wd : Int) (hL : Lr X n m w0 w p pt gt v s es) (hF : Fr m s es true pl rd wd) :
    Calls Try.prog 26 #[.pointer (some ⟨pt, 0, none⟩), .int .i64 pl] w fun e w' => ∃ wd', e = .returned (.tuple #[.int .i64 wd', .int .i64 0]) ∧ Lr X n m w0 w' p pt gt v s es ∧ Fr m s es true pl true wd' ∧ Kg X gt w w' := by
  have hf := hL.co.fine
  have hw : s.wk = true := hF.ask.symm
  have hm16 := hf.m16
  obtain ⟨a0, a1, hwo⟩ := place_word hf hF.len hw
  have hpl := hF.pl rfl
  have hx := wordX_yes pt gt es s.a w hL.tb (by rw [hF.len]; omega) hF.good a0 a1
  rw [hpl]
  refine hx.mono ?_
  rintro e w' ⟨rfl, hb⟩
  have := hF.read hwo
  rw [hpl] at this
  exact ⟨_, rfl, hL.ext hb, this, Kg.kp (hL.co.kp hb)⟩

theorem fbegin (g : Int) (asks : Bool) (pl : Int) (rd : Bool) (wd : Int) (hL : Lr X n m w0 w p pt gt v s es) (hF : Fr m s es asks pl rd wd) :
    Calls Try.prog 18 #[.pointer (some ⟨p, 0, none⟩), .int .i64 g] w fun e w' =>
      (∃ r, e = .returned (.tuple #[.int .i64 0, .int .i64 r]) ∧ (r == 0) = false ∧ Lr X n m w0 w' p pt gt v s es ∧ Kg X gt w w') ∨
      (e = .returned (.tuple #[.int .i64 (g / 4), .int .i64 0]) ∧ ∃ s', Lr X n m w0 w' p pt gt v s' es ∧ Fr m s' es true (g / 4) false wd ∧ Kg X gt w w') := by
  have hf := hL.co.fine
  have hgr := hf.gr
  have hm16 := hf.m16
  have hkl : s.ks.length ≤ 100 := by have := hf.len; have := hf.n8; omega
  have hno : ∀ r : Int, (r == 0) = false → noBegin s g r → Calls Try.prog 18 #[.pointer (some ⟨p, 0, none⟩), .int .i64 g] w fun e w' =>
      (∃ r, e = .returned (.tuple #[.int .i64 0, .int .i64 r]) ∧ (r == 0) = false ∧ Lr X n m w0 w' p pt gt v s es ∧ Kg X gt w w') ∨
      (e = .returned (.tuple #[.int .i64 (g / 4), .int .i64 0]) ∧ ∃ s', Lr X n m w0 w' p pt gt v s' es ∧ Fr m s' es true (g / 4) false wd ∧ Kg X gt w w') := fun r h1 h2 =>
    (cbegin_no p v s g r w hL.co.ck hkl h2).mono (fun e w' h => .inl ⟨r, h.1, h1, hL.ext h.2, Kg.kp (hL.co.kp h.2)⟩)
  by_cases h0 : g < 0 ∨ s.gr ≤ g
  · exact hno 10 rfl (.inl ⟨h0, rfl⟩)
  · rcases where_is s.ks g with hk | hn
    · exact hno 13 rfl (.inr (.inl ⟨by omega, by omega, hk, rfl⟩))
    · cases hw : s.wk
      · refine (cbegin_ok p v s g w hL.co.ck hkl (by omega) (by omega) (by omega) hn hw).mono ?_
        rintro e w' ⟨rfl, hC, hg⟩
        have hm := hL.co.move hC (hf.begun (by omega) (by omega) hn) (Tc.of_grown hg) (fun g hg => .inl hg)
        exact .inr ⟨rfl, _, hL.move hm, hF.begun, Kg.kp hm.2⟩
      · exact hno 16 rfl (.inr (.inr ⟨by omega, by omega, hn, hw, rfl⟩))

theorem fdrop (g : Int) (asks : Bool) (pl : Int) (rd : Bool) (wd : Int) (hL : Lr X n m w0 w p pt gt v s es) (hF : Fr m s es asks pl rd wd) (h0 : 0 ≤ g) :
    Calls Try.prog 17 #[.pointer (some ⟨p, 0, none⟩), .int .i64 g] w fun e w' => (∃ a b : Int, e = .returned (.tuple #[.int .i64 a, .int .i64 b])) ∧ ∃ v' s', Lr X n m w0 w' p pt gt v' s' es ∧ Fr m s' es asks pl rd wd ∧ Kg X gt w w' := by
  have hf := hL.co.fine
  have hkl : s.ks.length ≤ 100 := by have := hf.len; have := hf.n8; omega
  by_cases h1 : s.gr ≤ g
  · exact (cdrop_no p v s g w hL.co.ck (.inr h1)).mono (fun e w' h => ⟨⟨_, _, h.1⟩, v, s, hL.ext h.2, hF, Kg.kp (hL.co.kp h.2)⟩)
  · refine (cdrop_ok p v s g w hL.co.ck hkl (by omega) (by omega)).mono ?_
    rintro e w' ⟨rfl, v', hC, hT, hn⟩
    have hm := hL.co.move hC (hf.dropt g) hT hn
    exact ⟨⟨_, _, rfl⟩, v', _, hL.move hm, hF.drop, Kg.kp hm.2⟩

/-- A granule is dropped whose entry has been turned. -/
theorem fdrop_set (g : Int) (x : En) (asks : Bool) (pl : Int) (rd : Bool) (wd : Int) (hL : Lr X n m w0 w p pt gt v s (es.set g.toNat x)) (hF : Fr m s es asks pl rd wd) (h0 : 0 ≤ g) (h1 : g < (m : Int)) (hx : ownB x.1 = true) :
    Calls Try.prog 17 #[.pointer (some ⟨p, 0, none⟩), .int .i64 g] w fun e w' => (∃ a b : Int, e = .returned (.tuple #[.int .i64 a, .int .i64 b])) ∧ ∃ v' s' es', Lr X n m w0 w' p pt gt v' s' es' ∧ Fr m s' es' asks pl rd wd ∧ Kg X gt w w' := by
  have hf := hL.co.fine
  have hkl : s.ks.length ≤ 100 := by have := hf.len; have := hf.n8; omega
  have hgr := hf.gr
  refine (cdrop_ok p v s g w hL.co.ck hkl (by omega) (by omega)).mono ?_
  rintro e w' ⟨rfl, v', hC, hT, hn⟩
  have hm := hL.co.move hC (hf.dropt g) hT hn
  exact ⟨⟨_, _, rfl⟩, v', _, _, hL.move hm, hF.set hf h0 hx, Kg.kp hm.2⟩

theorem fset (g o : Int) (l : Bool) (asks : Bool) (pl : Int) (rd : Bool) (wd : Int) (hL : Lr X n m w0 w p pt gt v s es) (hF : Fr m s es asks pl rd wd) :
    Calls Try.prog 24 #[.pointer (some ⟨pt, 0, none⟩), .int .i64 g, .agg #[.int .i64 o, .bool l]] w fun e w' =>
      (e = .returned (.int .i64 10) ∧ Lr X n m w0 w' p pt gt v s es ∧ Kg X gt w w') ∨
      (e = .returned (.int .i64 0) ∧ Lr X n m w0 w' p pt gt v s (es.set g.toNat (o, l)) ∧ 0 ≤ g ∧ g < (m : Int) ∧ ownB o = true ∧ Kg X gt w w') := by
  by_cases h : 0 ≤ g ∧ g < es.length ∧ ownB o = true
  · refine (set_yes pt gt es g o l w hL.tb h.1 h.2.1 h.2.2).mono ?_
    rintro e w' ⟨rfl, hg, ht⟩
    exact .inr ⟨rfl, hL.set hg ht, h.1, by rw [← hF.len]; exact h.2.1, h.2.2, ⟨hg.size, fun k hk hne => hg.block k (hL.co.lim k hk) (fun e => hne (Option.some.inj e))⟩⟩
  · exact (set_no pt gt es g o l w hL.tb h).mono (fun e w' h => .inl ⟨h.1, hL.ext h.2, Kg.kp (hL.co.kp h.2)⟩)
end

end Go.Proofs.Ytjggnhcdnfmmeaa
