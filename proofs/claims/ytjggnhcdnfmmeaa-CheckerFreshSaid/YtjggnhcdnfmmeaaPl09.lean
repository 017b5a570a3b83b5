/- What this text holds: the plain law of CheckerFresh: what is known is what the table tells, turn by turn. No condition. -/
import Derived.Test.YtjggnhcdnfmmeaaL09E
namespace Go.Proofs.Ytjggnhcdnfmmeaa
open Go.RowKit

/-- What a word that was read tells, by the table as it stands. -/
def wordOk (m : Int) (es : List En) (s : CkS) (wd : Int) : Prop :=
  (s.a = s.g / 4 ∧ (wd = 4 * ((m + 3) / 4 + s.g / 4 * 4) + 1 ∨ ∃ o, wd = 4 * o ∧ atE es s.g.toNat = (o, false))) ∨
  (s.a = (m + 3) / 4 + s.g ∧ wd = entW (atE es s.g.toNat))

/-- What holds behind each turn. -/
structure Fr (m : Nat) (s : CkS) (es : List En) (asks : Bool) (pl : Int) (rd : Bool) (wd : Int) : Prop where
  good : Good es
  len : es.length = m
  ask : asks = s.wk
  pl : asks = true → pl = s.a
  kn : ∀ f ∈ s.ks, atE es f.1.toNat = (f.2, false)
  rd : asks = true → rd = true → s.st = false → wordOk m es s wd

theorem atE_set_ne {es : List En} {i j : Nat} {x : En} (h : i ≠ j) : atE (es.set i x) j = atE es j := by
  unfold atE
  rw [List.getElem?_set_ne h]
theorem Fr.new (n : Int) (m : Nat) (pl wd : Int) (rd : Bool) : Fr m ⟨false, 0, 0, false, n, m, []⟩ (List.replicate m (0, false)) false pl rd wd :=
  ⟨good_new m, by simp, rfl, fun e => by simp at e, fun f hf => by simp at hf, fun e => by simp at e⟩

theorem delB_ne {g x : Int} (_hg : g ≠ -1) (h : delB g x = false) : x ≠ g := by
  unfold delB at h
  intro e
  simp [e] at h
/-- A granule's entry is turned, and it is dropped. -/
theorem Fr.set {n : Int} {m : Nat} {s : CkS} {es : List En} {asks rd : Bool} {pl wd g : Int} {x : En} (h : Fr m s es asks pl rd wd) (hf : Fine n m s) (h0 : 0 ≤ g) (hx : ownB x.1 = true) :
    Fr m (dropt s g) (es.set g.toNat x) asks pl rd wd := by
  have hg := put1_good (i := g.toNat) (x := x) h.good
  unfold put1 at hg
  rw [hx] at hg
  refine ⟨hg, by rw [List.length_set]; exact h.len, h.ask, h.pl, fun f hf' => ?_, fun ha hr hs => ?_⟩
  · obtain ⟨h1, h2⟩ := List.mem_filter.1 (show f ∈ s.ks.filter _ from hf')
    have h3 : delB g f.1 = false := by simpa using h2
    have h4 := delB_ne (by omega) h3
    have h5 := hf.rng f h1
    rw [atE_set_ne (by omega)]
    exact h.kn f h1
  · have hw : s.wk = true := by rw [← h.ask]; exact ha
    have hs' : (s.st || (s.wk && delB g s.g)) = false := hs
    rw [hw, Bool.true_and, Bool.or_eq_false_iff] at hs'
    have h4 := delB_ne (by omega) hs'.2
    have h5 := hf.walk hw
    have := h.rd ha hr hs'.1
    have e : atE (es.set g.toNat x) s.g.toNat = atE es s.g.toNat := atE_set_ne (by omega)
    have h6 : wordOk m (es.set g.toNat x) s wd := by
      unfold wordOk at *
      rw [e]
      exact this
    exact h6
/-- A granule is dropped. -/
theorem Fr.drop {m : Nat} {s : CkS} {es : List En} {asks rd : Bool} {pl wd g : Int} (h : Fr m s es asks pl rd wd) : Fr m (dropt s g) es asks pl rd wd := by
  refine ⟨h.good, h.len, h.ask, h.pl, fun f hf' => ?_, fun ha hr hs => ?_⟩
  · obtain ⟨h1, h2⟩ := List.mem_filter.1 (show f ∈ s.ks.filter _ from hf')
    exact h.kn f h1
  · have hs' : (s.st || (s.wk && delB g s.g)) = false := hs
    rw [Bool.or_eq_false_iff] at hs'
    exact h.rd ha hr hs'.1
theorem Fr.begun {m : Nat} {s : CkS} {es : List En} {asks rd : Bool} {pl wd g : Int} (h : Fr m s es asks pl rd wd) : Fr m { s with wk := true, g := g, a := g / 4, st := false } es true (g / 4) false wd :=
  ⟨h.good, h.len, rfl, fun _ => rfl, h.kn, fun _ e => by cases e⟩
theorem Fr.at {m : Nat} {s : CkS} {es : List En} {rd : Bool} {pl wd : Int} (h : Fr m s es true pl rd wd) (a : Int) (b : Bool) : Fr m { s with a := a, st := b } es true a false wd :=
  ⟨h.good, h.len, h.ask, fun _ => rfl, h.kn, fun _ e => by cases e⟩
theorem Fr.learnt {m : Nat} {s : CkS} {es : List En} {rd asks : Bool} {pl wd : Int} (h : Fr m s es asks pl rd wd) {o : Int} (ho : atE es s.g.toNat = (o, false)) : Fr m ⟨false, 0, 0, false, s.en, s.gr, learnt s.ks s.en (s.g, o)⟩ es false 0 false wd := by
  refine ⟨h.good, h.len, rfl, fun e => by (cases e), fun f hf => ?_, fun e => by cases e⟩
  rcases learnt_mem hf with h1 | rfl
  · exact h.kn f h1
  · exact ho
theorem Fr.read {m : Nat} {s : CkS} {es : List En} {rd : Bool} {pl wd wd' : Int} (h : Fr m s es true pl rd wd) (hw : wordOk m es s wd') : Fr m s es true pl true wd' :=
  ⟨h.good, h.len, h.ask, h.pl, h.kn, fun _ _ _ => hw⟩

/-- The word at the place that was asked for. -/
theorem place_word {n : Int} {m : Nat} {s : CkS} {es : List En} (hf : Fine n m s) (hl : es.length = m) (hw : s.wk = true) :
    0 ≤ s.a ∧ s.a < (wordsOf es).length ∧ wordOk m es s ((wordsOf es)[s.a.toNat]?.getD 0) := by
  obtain ⟨g0, g1, _, g3⟩ := hf.walk hw
  obtain ⟨k, hk⟩ := Int.eq_ofNat_of_zero_le g0
  have hkm : k < es.length := by omega
  rw [words_length]
  unfold wordOk ngr
  rw [hk] at g3 ⊢
  rcases g3 with e | e <;> rw [e]
  · refine ⟨by omega, by omega, .inl ⟨rfl, ?_⟩⟩
    rw [word_first es k hkm]
    unfold grpW
    cases hq : grpOk es (k / 4)
    · refine .inl ?_
      unfold ngr
      simp
      omega
    · refine .inr ⟨(atE es (4 * (k / 4))).1, by simp, ?_⟩
      rw [Int.toNat_natCast]
      exact grp_allX hkm hq
  · refine ⟨by omega, by omega, .inr ⟨rfl, ?_⟩⟩
    rw [← hl, word_own es k hkm, Int.toNat_natCast]

/-- What is told beside what is known: what the law asks of each granule that is known. -/
def FaOk (m : Nat) (es : List En) (f : Fa) : Prop := 0 ≤ f.1 ∧ f.1 < (m : Int) ∧ atE es f.1.toNat = (f.2, false)
theorem Fr.ok {n : Int} {m : Nat} {s : CkS} {es : List En} {asks rd : Bool} {pl wd : Int} (h : Fr m s es asks pl rd wd) (hf : Fine n m s) : ∀ f ∈ s.ks, FaOk m es f :=
  fun f hm => ⟨(hf.rng f hm).1, (hf.rng f hm).2, h.kn f hm⟩
/-- A list as a list of things that are so. -/
def withP {P : Fa → Prop} : (ks : List Fa) → (∀ f ∈ ks, P f) → List { f : Fa // P f }
  | [], _ => []
  | f :: ks, h => ⟨f, h f List.mem_cons_self⟩ :: withP ks (fun g hg => h g (List.mem_cons_of_mem _ hg))
theorem withP_val {P : Fa → Prop} : ∀ (ks : List Fa) (h : ∀ f ∈ ks, P f), (withP ks h).map Subtype.val = ks
  | [], _ => rfl
  | f :: ks, h => by simp [withP, withP_val ks]

end Go.Proofs.Ytjggnhcdnfmmeaa
