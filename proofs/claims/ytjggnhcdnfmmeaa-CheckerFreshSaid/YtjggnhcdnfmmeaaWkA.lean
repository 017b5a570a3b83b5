/- What this text holds: a checker beside the document's answer; each call of one, weakly: it ends, and what both are stays as it must. No condition. -/
import Derived.Test.YtjggnhcdnfmmeaaRefE
import Derived.Test.YtjggnhcdnfmmeaaChkR
import Derived.Test.YtjggnhcdnfmmeaaChkP
import Derived.Test.YtjggnhcdnfmmeaaTblF
namespace Go.Proofs.Ytjggnhcdnfmmeaa
open Go.RowKit

/-- What a checker may be. -/
structure Fine (n m : Int) (s : CkS) : Prop where
  en : s.en = n
  gr : s.gr = m
  n1 : 1 ≤ n
  n8 : n ≤ 8
  m1 : 1 ≤ m
  m16 : m ≤ 16
  len : (s.ks.length : Int) ≤ n
  own : ∀ k ∈ s.ks, 0 ≤ k.2 ∧ k.2 ≤ 4
  one : (s.ks.map Prod.fst).Nodup
  rng : ∀ k ∈ s.ks, 0 ≤ k.1 ∧ k.1 < m
  walk : s.wk = true → 0 ≤ s.g ∧ s.g < m ∧ (∀ k ∈ s.ks, k.1 ≠ s.g) ∧ (s.a = s.g / 4 ∨ s.a = (m + 3) / 4 + s.g)

theorem atF_mem {ks : List Fa} {i : Nat} (h : i < ks.length) : atF ks i ∈ ks := by
  unfold atF
  rw [List.getElem?_eq_getElem h]
  exact List.getElem_mem h
theorem mem_atF {ks : List Fa} {k : Fa} (h : k ∈ ks) : ∃ i, i < ks.length ∧ atF ks i = k := by
  obtain ⟨i, hi, rfl⟩ := List.getElem_of_mem h
  exact ⟨i, hi, by unfold atF; rw [List.getElem?_eq_getElem hi]; rfl⟩
theorem nowhere_iff {ks : List Fa} {g : Int} : Nowhere ks g ↔ ∀ k ∈ ks, k.1 ≠ g :=
  ⟨fun h k hk => by obtain ⟨i, hi, rfl⟩ := mem_atF hk; exact h i hi, fun h i hi => h _ (atF_mem hi)⟩

theorem Fine.begun {n m : Int} {s : CkS} (h : Fine n m s) {g : Int} (h1 : 0 ≤ g) (h2 : g < m) (hn : Nowhere s.ks g) : Fine n m { s with wk := true, g := g, a := g / 4, st := false } :=
  ⟨h.en, h.gr, h.n1, h.n8, h.m1, h.m16, h.len, h.own, h.one, h.rng, fun _ => ⟨h1, h2, nowhere_iff.1 hn, .inl rfl⟩⟩
theorem Fine.at1 {n m : Int} {s : CkS} (h : Fine n m s) (b : Bool) : Fine n m { s with a := s.g / 4, st := b } :=
  ⟨h.en, h.gr, h.n1, h.n8, h.m1, h.m16, h.len, h.own, h.one, h.rng, fun hw => ⟨(h.walk hw).1, (h.walk hw).2.1, (h.walk hw).2.2.1, .inl rfl⟩⟩
theorem Fine.at2 {n m : Int} {s : CkS} (h : Fine n m s) : Fine n m { s with a := (m + 3) / 4 + s.g } :=
  ⟨h.en, h.gr, h.n1, h.n8, h.m1, h.m16, h.len, h.own, h.one, h.rng, fun hw => ⟨(h.walk hw).1, (h.walk hw).2.1, (h.walk hw).2.2.1, .inr rfl⟩⟩
theorem Fine.at2' {n m : Int} {s : CkS} (h : Fine n m s) {x : Int} (hx : x = (m + 3) / 4 + s.g) : Fine n m { s with a := x } := by
  subst hx
  exact h.at2
theorem Fine.learnt {n m : Int} {s : CkS} (h : Fine n m s) (hw : s.wk = true) {o : Int} (h0 : 0 ≤ o) (h4 : o ≤ 4) : Fine n m ⟨false, 0, 0, false, s.en, s.gr, learnt s.ks s.en (s.g, o)⟩ := by
  obtain ⟨g1, g2, g3, _⟩ := h.walk hw
  have hsub : ∀ ls : List Fa, List.Sublist ls s.ks → (ls.length : Int) + 1 ≤ n → Fine n m ⟨false, 0, 0, false, s.en, s.gr, ls ++ [(s.g, o)]⟩ := fun ls hs hl => by
    refine ⟨h.en, h.gr, h.n1, h.n8, h.m1, h.m16, by simpa using hl, fun k hk => ?_, ?_, fun k hk => ?_, fun e => by cases e⟩
    · rcases List.mem_append.1 hk with hk | hk
      · exact h.own k (hs.subset hk)
      · simp at hk; subst hk; exact ⟨h0, h4⟩
    · rw [List.map_append, List.nodup_append]
      refine ⟨h.one.sublist (hs.map _), by simp, fun a ha b hb => ?_⟩
      simp at hb
      subst hb
      obtain ⟨k, hk, rfl⟩ := List.mem_map.1 ha
      exact g3 k (hs.subset hk)
    · rcases List.mem_append.1 hk with hk | hk
      · exact h.rng k (hs.subset hk)
      · simp at hk; subst hk; exact ⟨g1, g2⟩
  unfold Go.Proofs.Ytjggnhcdnfmmeaa.learnt
  have := h.len
  have := h.en
  have := h.n1
  split
  · exact hsub _ (List.Sublist.refl _) (by omega)
  · exact hsub _ (List.tail_sublist _) (by simp; omega)
theorem Fine.dropt {n m : Int} {s : CkS} (h : Fine n m s) (g : Int) : Fine n m (dropt s g) := by
  have hs : List.Sublist (kept g s.ks) s.ks := List.filter_sublist
  have h1 := h.len
  have h2 := kept_len g s.ks
  exact ⟨h.en, h.gr, h.n1, h.n8, h.m1, h.m16, by show ((kept g s.ks).length : Int) ≤ n; omega, fun k hk => h.own k (hs.subset hk), h.one.sublist (hs.map _), fun k hk => h.rng k (hs.subset hk),
    fun hw => ⟨(h.walk hw).1, (h.walk hw).2.1, fun k hk => (h.walk hw).2.2.1 k (hs.subset hk), (h.walk hw).2.2.2⟩⟩

/-- What lay in X lies as it lay. -/
structure Kp (X : Nat → Prop) (w w' : World) : Prop where
  os : w'.os = w.os
  tape : w'.tape = w.tape
  output : w'.output = w.output
  size : w.heap.size ≤ w'.heap.size
  block : ∀ k, X k → w'.heap[k]? = w.heap[k]?
/-- A checker beside the document's answer, both outside of X. -/
structure Bo (X : Nat → Prop) (n m : Int) (w : World) (p q : Nat) (v : Value) (s : CkS) (u u' : Value) (t : RfS) : Prop where
  ck : Ck w p v s
  fine : Fine n m s
  lim : ∀ k, X k → k < w.heap.size
  bp : ¬ X p
  bv : ∀ g, v.ownBlock = some g → ¬ X g
  rf : Rf w q u u' t
  en : t.en = n
  gr : t.gr = m
  len : (t.xs.length : Int) ≤ n
  bq : ¬ X q
  bu : ∀ g, u.ownBlock = some g → ¬ X g
  bu' : ∀ g, u'.ownBlock = some g → ¬ X g
  pq : p ≠ q
  vq : v.ownBlock ≠ some q
  up : u.ownBlock ≠ some p
  up' : u'.ownBlock ≠ some p
  vu : ∀ g, v.ownBlock = some g → u.ownBlock ≠ some g
  vu' : ∀ g, v.ownBlock = some g → u'.ownBlock ≠ some g
def BB (X : Nat → Prop) (n m : Int) (w : World) (p q : Nat) : Prop := ∃ v s u u' t, Bo X n m w p q v s u u' t

theorem Bo.ext {X : Nat → Prop} {n m : Int} {w w' : World} {p q : Nat} {v : Value} {s : CkS} {u u' : Value} {t : RfS} (h : Bo X n m w p q v s u u' t) (hb : Below w.heap.size w w') : Bo X n m w' p q v s u u' t :=
  { h with ck := h.ck.ext hb, rf := h.rf.ext hb, lim := fun k hk => Nat.lt_of_lt_of_le (h.lim k hk) hb.size }
theorem BB.ext {X : Nat → Prop} {n m : Int} {w w' : World} {p q : Nat} (h : BB X n m w p q) (hb : Below w.heap.size w w') : BB X n m w' p q := by
  obtain ⟨v, s, u, u', t, h⟩ := h
  exact ⟨v, s, u, u', t, h.ext hb⟩
theorem Bo.kp {X : Nat → Prop} {n m : Int} {w w' : World} {p q : Nat} {v : Value} {s : CkS} {u u' : Value} {t : RfS} (h : Bo X n m w p q v s u u' t) (hb : Below w.heap.size w w') : Kp X w w' := ⟨hb.os, hb.tape, hb.output, hb.size, fun k hk => hb.block k (h.lim k hk)⟩
theorem Kp.trans {X : Nat → Prop} {a b c : World} (h : Kp X a b) (k : Kp X b c) : Kp X a c := ⟨k.os.trans h.os, k.tape.trans h.tape, k.output.trans h.output, Nat.le_trans h.size k.size, fun q hq => (k.block q hq).trans (h.block q hq)⟩
theorem Kp.weak {X Y : Nat → Prop} {a b : World} (h : Kp X a b) (hy : ∀ k, Y k → X k) : Kp Y a b := ⟨h.os, h.tape, h.output, h.size, fun q hq => h.block q (hy q hq)⟩
theorem Bo.weak {X Y : Nat → Prop} {n m : Int} {w : World} {p q : Nat} {v : Value} {s : CkS} {u u' : Value} {t : RfS} (h : Bo X n m w p q v s u u' t) (hy : ∀ k, Y k → X k) : Bo Y n m w p q v s u u' t :=
  { h with lim := fun k hk => h.lim k (hy k hk), bp := fun e => h.bp (hy _ e), bq := fun e => h.bq (hy _ e), bv := fun g hg e => h.bv g hg (hy _ e), bu := fun g hg e => h.bu g hg (hy _ e), bu' := fun g hg e => h.bu' g hg (hy _ e) }
theorem BB.weak {X Y : Nat → Prop} {n m : Int} {w : World} {p q : Nat} (h : BB X n m w p q) (hy : ∀ k, Y k → X k) : BB Y n m w p q := by
  obtain ⟨v, s, u, u', t, h⟩ := h
  exact ⟨v, s, u, u', t, h.weak hy⟩
/-- A new block stands beside. -/
theorem BB.with {X : Nat → Prop} {n m : Int} {w : World} {p q : Nat} (h : BB X n m w p q) (o : Obj) : BB (fun k => X k ∨ k = w.heap.size) n m (w.alloc o) p q := by
  obtain ⟨v, s, u, u', t, h⟩ := h
  have h1 := h.ext (ext_alloc o (Below.refl _ w))
  refine ⟨v, s, u, u', t, { h1 with lim := fun k hk => ?_, bp := fun e => ?_, bq := fun e => ?_, bv := fun g hg e => ?_, bu := fun g hg e => ?_, bu' := fun g hg e => ?_ }⟩
  · rcases hk with hk | rfl
    · exact h1.lim k hk
    · simp
  · rcases e with e | e
    · exact h.bp e
    · have := h.ck.lt; omega
  · rcases e with e | e
    · exact h.bv g hg e
    · have := (h.ck.own.lt g hg).2; omega
  · rcases e with e | e
    · exact h.bq e
    · have := h.rf.lt; omega
  · rcases e with e | e
    · exact h.bu g hg e
    · have := h.rf.gx.lt g hg; omega
  · rcases e with e | e
    · exact h.bu' g hg e
    · have := h.rf.gy.lt g hg; omega

theorem Bo.ckmove {X : Nat → Prop} {n m : Int} {w w' : World} {p q : Nat} {v v' : Value} {s s' : CkS} {u u' : Value} {t : RfS} (h : Bo X n m w p q v s u u' t) (hc : Ck w' p v' s') (hf : Fine n m s') (ht : Tc w w' p v.ownBlock) (hn : ∀ g, v'.ownBlock = some g → v.ownBlock = some g ∨ w.heap.size ≤ g) :
    Bo X n m w' p q v' s' u u' t ∧ Kp X w w' := by
  have hq := h.rf.lt
  refine ⟨⟨hc, hf, fun k hk => Nat.lt_of_lt_of_le (h.lim k hk) ht.size, h.bp, fun g hg hx => ?_, h.rf.keep (fun g hg => ?_), h.en, h.gr, h.len, h.bq, h.bu, h.bu', h.pq, fun e => ?_, h.up, h.up', fun g hg e => ?_, fun g hg e => ?_⟩, ⟨ht.os, ht.tape, ht.output, ht.size, fun k hk => ?_⟩⟩
  · rcases hn g hg with h1 | h1
    · exact h.bv g h1 hx
    · have := h.lim g hx
      omega
  · rcases hg with rfl | hg | hg
    · exact ht.block g hq (Ne.symm h.pq) (fun e => h.vq e.symm)
    · exact ht.block g (h.rf.gx.lt g hg) (fun e => h.up (by rw [hg, e])) (fun e => h.vu g e.symm hg)
    · exact ht.block g (h.rf.gy.lt g hg) (fun e => h.up' (by rw [hg, e])) (fun e => h.vu' g e.symm hg)
  · rcases hn q e with h1 | h1
    · exact h.vq h1
    · omega
  · rcases hn g hg with h1 | h1
    · exact h.vu g h1 e
    · have := h.rf.gx.lt g e
      omega
  · rcases hn g hg with h1 | h1
    · exact h.vu' g h1 e
    · have := h.rf.gy.lt g e
      omega
  · exact ht.block k (h.lim k hk) (fun e => h.bp (e ▸ hk)) (fun e => h.bv k e.symm hk)

theorem Bo.rfmove {X : Nat → Prop} {n m : Int} {w w' : World} {p q : Nat} {v : Value} {s : CkS} {u u' : Value} {t : RfS} (h : Bo X n m w p q v s u u' t) (hr : RPost w w' q u u' t) :
    BB X n m w' p q ∧ Kp X w w' := by
  obtain ⟨u1, u2, t1, r1, r2, r3, r4, r5, r6, r7⟩ := hr
  have hp := h.ck.lt
  refine ⟨⟨v, s, u1, u2, t1, ⟨h.ck.keep (fun g hg => ?_), h.fine, fun k hk => Nat.lt_of_lt_of_le (h.lim k hk) r5.size, h.bp, h.bv, r1, r2.trans h.en, r3.trans h.gr, by have := h.en; omega, h.bq, fun g hg hx => ?_, fun g hg hx => ?_, h.pq, h.vq, fun e => ?_, fun e => ?_, fun g hg e => ?_, fun g hg e => ?_⟩⟩, ⟨r5.os, r5.tape, r5.output, r5.size, fun k hk => ?_⟩⟩
  · rcases hg with rfl | hg
    · exact r5.block g hp h.pq (fun e => h.up e.symm) (fun e => h.up' e.symm)
    · exact r5.block g (h.ck.own.lt g hg).2 (fun e => h.vq (by rw [hg, e])) (fun e => h.vu g hg e.symm) (fun e => h.vu' g hg e.symm)
  · rcases r6 g hg with h1 | h1
    · exact h.bu g h1 hx
    · have := h.lim g hx
      omega
  · rcases r7 g hg with h1 | h1
    · exact h.bu' g h1 hx
    · have := h.lim g hx
      omega
  · rcases r6 p e with h1 | h1
    · exact h.up h1
    · omega
  · rcases r7 p e with h1 | h1
    · exact h.up' h1
    · omega
  · rcases r6 g e with h1 | h1
    · exact h.vu g hg h1
    · have := (h.ck.own.lt g hg).2
      omega
  · rcases r7 g e with h1 | h1
    · exact h.vu' g hg h1
    · have := (h.ck.own.lt g hg).2
      omega
  · exact r5.block k (h.lim k hk) (fun e => h.bq (e ▸ hk)) (fun e => h.bu k e.symm hk) (fun e => h.bu' k e.symm hk)

/-- Two numbers come back. -/
def Duo (e : Ending) : Prop := ∃ a b : Int, e = .returned (.tuple #[.int .i64 a, .int .i64 b])

theorem klen {X : Nat → Prop} {n m : Int} {w : World} {p q : Nat} {v : Value} {s : CkS} {u u' : Value} {t : RfS} (h : Bo X n m w p q v s u u' t) : s.ks.length ≤ 8 := by
  have := h.fine.len
  have := h.fine.n8
  omega

theorem wbegin (X : Nat → Prop) (n m : Int) (p q : Nat) (g : Int) (w : World) (h : BB X n m w p q) :
    Calls Try.prog 18 #[.pointer (some ⟨p, 0, none⟩), .int .i64 g] w fun e w' => Duo e ∧ BB X n m w' p q ∧ Kp X w w' := by
  obtain ⟨v, s, u, u', t, h⟩ := h
  have hk := klen h
  have no : ∀ r, noBegin s g r → Calls Try.prog 18 #[.pointer (some ⟨p, 0, none⟩), .int .i64 g] w fun e w' => Duo e ∧ BB X n m w' p q ∧ Kp X w w' := fun r hr =>
    (cbegin_no p v s g r w h.ck (by omega) hr).mono fun e w' ⟨he, hb⟩ => ⟨⟨_, _, he⟩, ⟨v, s, u, u', t, h.ext hb⟩, h.kp hb⟩
  have hgr := h.fine.gr
  by_cases h1 : g < 0 ∨ m ≤ g
  · exact no 10 (.inl ⟨by omega, rfl⟩)
  · rcases where_is s.ks g with h2 | h2
    · exact no 13 (.inr (.inl ⟨by omega, by omega, h2, rfl⟩))
    · cases hw : s.wk
      · refine (cbegin_ok p v s g w h.ck (by omega) (by omega) (by omega) (by have := h.fine.m16; omega) h2 hw).mono fun e w' ⟨he, hc, hg⟩ => ?_
        obtain ⟨k1, k2⟩ := h.ckmove hc (h.fine.begun (by omega) (by omega) h2) ((Tc.of_grown hg)) (fun g hg => .inl hg)
        exact ⟨⟨_, _, he⟩, ⟨_, _, _, _, _, k1⟩, k2⟩
      · exact no 16 (.inr (.inr ⟨by omega, by omega, h2, hw, rfl⟩))

theorem wdrop (X : Nat → Prop) (n m : Int) (p q : Nat) (g : Int) (w : World) (h : BB X n m w p q) :
    Calls Try.prog 17 #[.pointer (some ⟨p, 0, none⟩), .int .i64 g] w fun e w' => Duo e ∧ BB X n m w' p q ∧ Kp X w w' := by
  obtain ⟨v, s, u, u', t, h⟩ := h
  have hk := klen h
  have hgr := h.fine.gr
  by_cases h1 : g < -1 ∨ m ≤ g
  · exact (cdrop_no p v s g w h.ck (by omega)).mono fun e w' ⟨he, hb⟩ => ⟨⟨_, _, he⟩, ⟨v, s, u, u', t, h.ext hb⟩, h.kp hb⟩
  · refine (cdrop_ok p v s g w h.ck (by omega) (by omega) (by omega)).mono fun e w' ⟨he, v', hc, ht, hn⟩ => ?_
    obtain ⟨k1, k2⟩ := h.ckmove hc (h.fine.dropt g) ht hn
    exact ⟨⟨_, _, he⟩, ⟨_, _, _, _, _, k1⟩, k2⟩

theorem wask (X : Nat → Prop) (n m : Int) (p q : Nat) (x g : Int) (w : World) (h : BB X n m w p q) :
    Calls Try.prog 16 #[.pointer (some ⟨p, 0, none⟩), .int .i64 x, .int .i64 g] w fun e w' => Duo e ∧ BB X n m w' p q ∧ Kp X w w' := by
  obtain ⟨v, s, u, u', t, h⟩ := h
  have hk := klen h
  have hgr := h.fine.gr
  by_cases h1 : g < 0 ∨ m ≤ g ∨ x < 0 ∨ 3 < x
  · exact (cask_no p v s x g w h.ck (by omega)).mono fun e w' ⟨he, hb⟩ => ⟨⟨_, _, he⟩, ⟨v, s, u, u', t, h.ext hb⟩, h.kp hb⟩
  · obtain ⟨r, hr, _⟩ := ask_some s.ks x g
    exact (cask_ok p v s x g r w h.ck (by omega) (by omega) (by omega) (by omega) (by omega) hr).mono fun e w' ⟨he, hb⟩ => ⟨⟨_, _, he⟩, ⟨v, s, u, u', t, h.ext hb⟩, h.kp hb⟩

theorem wwalked (X : Nat → Prop) (n m : Int) (p q : Nat) (x y : Int) (w : World) (h : BB X n m w p q) :
    Calls Try.prog 19 #[.pointer (some ⟨p, 0, none⟩), .int .i64 x, .int .i64 y] w fun e w' => Trio e ∧ BB X n m w' p q ∧ Kp X w w' := by
  obtain ⟨v, s, u, u', t, h⟩ := h
  have hk := klen h
  have hgr := h.fine.gr
  have hm := h.fine.m16
  have hm1 := h.fine.m1
  have quiet : ∀ (a b : Int) (l : Bool), (Calls Try.prog 19 #[.pointer (some ⟨p, 0, none⟩), .int .i64 x, .int .i64 y] w fun e w' => e = .returned (.tuple #[.int .i64 a, .bool l, .int .i64 b]) ∧ Below w.heap.size w w') →
      Calls Try.prog 19 #[.pointer (some ⟨p, 0, none⟩), .int .i64 x, .int .i64 y] w fun e w' => Trio e ∧ BB X n m w' p q ∧ Kp X w w' := fun a b l hc =>
    hc.mono fun e w' ⟨he, hb⟩ => ⟨⟨_, _, _, he⟩, ⟨v, s, u, u', t, h.ext hb⟩, h.kp hb⟩
  cases hw : s.wk
  · exact quiet _ _ _ (cwalked_state p v s x y w h.ck hw)
  · obtain ⟨g1, g2, g3, g4⟩ := h.fine.walk hw
    by_cases hx : x = s.a
    · subst hx
      cases hs : s.st
      · have hN := next_all m s.g s.a y hm1 hm g1 g2 g4
        rw [← hgr] at hN
        rcases hN with hN | hN | ⟨o, l, o1, o2, hN⟩
        · exact quiet _ _ _ (cwalked_err p v s y w h.ck hw hs g1 (by omega) hN)
        · refine (cwalked_more p v s y _ w h.ck hw hs g1 (by omega) hN).mono fun e w' ⟨he, hc, hg⟩ => ?_
          obtain ⟨k1, k2⟩ := h.ckmove hc (h.fine.at2' (by rw [hgr])) (Tc.of_grown hg) (fun g hg => .inl hg)
          exact ⟨⟨_, _, _, he⟩, ⟨_, _, _, _, _, k1⟩, k2⟩
        · cases l
          · refine (cwalked_learn p v s y o w h.ck hw hs g1 (by omega) hN (by omega) (by have := h.fine.en; have := h.fine.n1; omega)).mono fun e w' ⟨he, v', hc, ht, hn⟩ => ?_
            obtain ⟨k1, k2⟩ := h.ckmove hc (h.fine.learnt hw o1 o2) ht hn
            exact ⟨⟨_, _, _, he⟩, ⟨_, _, _, _, _, k1⟩, k2⟩
          · refine (cwalked_locked p v s y o w h.ck hw hs g1 (by omega) hN).mono fun e w' ⟨he, hc, hg⟩ => ?_
            obtain ⟨k1, k2⟩ := h.ckmove hc (h.fine.at1 s.st) (Tc.of_grown hg) (fun g hg => .inl hg)
            exact ⟨⟨_, _, _, he⟩, ⟨_, _, _, _, _, k1⟩, k2⟩
      · refine (cwalked_stale p v s y w h.ck hw hs g1 (by omega)).mono fun e w' ⟨he, hc, hg⟩ => ?_
        obtain ⟨k1, k2⟩ := h.ckmove hc (h.fine.at1 false) (Tc.of_grown hg) (fun g hg => .inl hg)
        exact ⟨⟨_, _, _, he⟩, ⟨_, _, _, _, _, k1⟩, k2⟩
    · exact quiet _ _ _ (cwalked_arg p v s x y w h.ck hw hx)

theorem wrbegin (X : Nat → Prop) (n m : Int) (p q : Nat) (g : Int) (w : World) (h : BB X n m w p q) :
    Calls Try.prog 35 #[.pointer (some ⟨q, 0, none⟩), .int .i64 g] w fun e w' => Duo e ∧ BB X n m w' p q ∧ Kp X w w' := by
  obtain ⟨v, s, u, u', t, h⟩ := h
  exact (rbegin q u u' t g w h.rf (by have := h.len; have := h.en; omega)).mono fun e w' ⟨⟨a, b, he⟩, hr⟩ => ⟨⟨a, b, he⟩, h.rfmove hr⟩
theorem wrdrop (X : Nat → Prop) (n m : Int) (p q : Nat) (g : Int) (w : World) (h : BB X n m w p q) :
    Calls Try.prog 37 #[.pointer (some ⟨q, 0, none⟩), .int .i64 g] w fun e w' => Duo e ∧ BB X n m w' p q ∧ Kp X w w' := by
  obtain ⟨v, s, u, u', t, h⟩ := h
  exact (rdrop q u u' t g w h.rf (by have := h.len; have := h.en; omega)).mono fun e w' ⟨⟨a, b, he⟩, hr⟩ => ⟨⟨a, b, he⟩, h.rfmove hr⟩
theorem wrwalked (X : Nat → Prop) (n m : Int) (p q : Nat) (x y : Int) (w : World) (h : BB X n m w p q) :
    Calls Try.prog 36 #[.pointer (some ⟨q, 0, none⟩), .int .i64 x, .int .i64 y] w fun e w' => Trio e ∧ BB X n m w' p q ∧ Kp X w w' := by
  obtain ⟨v, s, u, u', t, h⟩ := h
  have h1 := h.fine.n1
  have h2 := h.fine.n8
  have h3 := h.fine.m1
  have h4 := h.fine.m16
  have h5 := h.en
  have h6 := h.gr
  have h7 := h.len
  exact (rwalked q u u' t x y m.toNat w h.rf (by omega) (by omega) (by omega) (by omega)).mono fun e w' ⟨he, hr⟩ => ⟨he, h.rfmove hr⟩
theorem wrask (X : Nat → Prop) (n m : Int) (p q : Nat) (x g : Int) (w : World) (h : BB X n m w p q) :
    Calls Try.prog 38 #[.pointer (some ⟨q, 0, none⟩), .int .i64 x, .int .i64 g] w fun e w' => (∃ r : Int, e = .returned (.int .i64 r)) ∧ BB X n m w' p q ∧ Kp X w w' := by
  obtain ⟨v, s, u, u', t, h⟩ := h
  exact (rask q u u' t x g w h.rf).mono fun e w' ⟨he, hb⟩ => ⟨he, ⟨v, s, u, u', t, h.ext hb⟩, h.kp hb⟩

end Go.Proofs.Ytjggnhcdnfmmeaa
