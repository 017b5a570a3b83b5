/- What this text holds: what All goes through at a checker that there is; a contract for all loop bodies that know what is told. No condition. -/
import Derived.Test.YtjggnhcdnfmmeaaPl09
import Derived.Test.YtjggnhcdnfmmeaaRdm
namespace Go.Proofs.Ytjggnhcdnfmmeaa
open Go.RowKit Go.Shelf
attribute [local go_sem] Oper.semAt_some

theorem cloneF_nil (w : World) : Calls Try.prog 46 #[.slice none 0 0] w fun e w' => e = .returned (.slice none 0 0) ∧ w' = w := by
  have hnil := fun wx => Lib.run_eql_slice_nil (P := Try.prog) wx 91 98 none 0 0 0 0 Try.underlying91
  go_enter Try.func46, Try.ntmps46
  go_wp2_with fail
  go_ret
  exact ⟨rfl, rfl⟩
theorem row_cellsF {w : World} {base : Nat} {a : Addr} {n c : Nat} {xs : List Value} (h : w.ownsRow base 98 2 (.slice (some a) n c) n xs) : ∀ j u, xs[j]? = some u → w.cell? (a.add j) = some u := by
  obtain ⟨g, cur, rfl, _⟩ := row_open h
  exact h.cells (g := g) rfl
set_option maxRecDepth 100000 in
theorem cloneF_some (a : Addr) (c : Nat) (xs : List Fa) (w : World) (h : w.ownsRow 0 98 2 (.slice (some a) xs.length c) xs.length (flatF xs)) (hn : xs.length ≤ 1000) :
    Calls Try.prog 46 #[.slice (some a) xs.length c] w fun e w' => ∃ v, e = .returned v ∧ w'.ownsRow w.heap.size 98 2 v xs.length (flatF xs) ∧ Below w.heap.size w w' := by
  obtain ⟨i0, hi, hz0, hz1, hz2⟩ := info_parts info_fact
  have H := Lib.hid h
  clear h
  have hnil := fun wx => Lib.run_eql_slice_nil (P := Try.prog) wx 91 98 (some a) xs.length c 0 0 Try.underlying91
  go_enter Try.func46, Try.ntmps46
  go_wp2_with (at_builtin; refine wpList_append_own _ rfl _ _ 91 rfl w.heap.size 98 i0 (.agg #[.int .i64 0, .int .i64 0]) 2 16 Try.underlying91 hi hz0 hz1 hz2 rfl (by decide) _ _ _ rfl (World.ownsRow_made w #[] 0 (Nat.le_refl _) (Nat.zero_le _) rfl) a xs.length c (flatF xs) rfl (flatF_len xs) ?c1 ?c2 ?c3 ?c4 ?c5 ?_)
  case c1 => exact row_cellsF (H.out.alloc _)
  case c2 => exact flatF_one xs
  case c3 => unfold maxLen; omega
  case c4 => omega
  case c5 => simp
  intro v' w1 hown hgrow _
  have HO : Hid (w1.ownsRow w.heap.size 98 2 v' xs.length (flatF xs)) := Lib.hid (by simpa using hown)
  have HB : Hid (Below w.heap.size w w1) := Lib.hid (((Below.refl w.heap.size w).alloc (Nat.le_refl _) (.cells #[] 98)).grown hgrow (by simp) (fun k hk => by simp [Value.ownBlock] at hk; omega))
  clear hown hgrow hnil
  go_wp2_with fail
  go_ret
  exact ⟨v', rfl, HO.out, HB.out⟩
theorem cloneF_any (A : Option Addr) (c : Nat) (xs : List Fa) (w : World) (h : w.ownsRow 0 98 2 (.slice A xs.length c) xs.length (flatF xs)) (hc : A = none → xs.length = 0 ∧ c = 0) (hn : xs.length ≤ 1000) :
    Calls Try.prog 46 #[.slice A xs.length c] w fun e w' => ∃ v, e = .returned v ∧ w'.ownsRow w.heap.size 98 2 v xs.length (flatF xs) ∧ Below w.heap.size w w' := by
  cases A with
  | some a => exact cloneF_some a c xs w h hn
  | none =>
    obtain ⟨h1, rfl⟩ := hc rfl
    have hx : xs = [] := List.eq_nil_of_length_eq_zero h1
    subst hx
    exact (cloneF_nil w).mono fun e w' ⟨he, hw⟩ => ⟨_, he, World.ownsRow_nil _ _ _ _, by rw [hw]; exact Below.refl _ _⟩

set_option maxRecDepth 100000 in
theorem callF_some (p : Nat) (v : Value) (s : CkS) (w : World) (h : Ck w p v s) (hn : s.ks.length ≤ 1000) : Calls Try.prog 21 #[.pointer (some ⟨p, 0, none⟩)] w fun e w' => e = .returned (.func (.func 47) #[] #[.pointer (some ⟨w.heap.size, 0, none⟩)]) ∧ ∃ v', FV w' w.heap.size v' s.ks ∧ (∀ g, v'.ownBlock = some g → w.heap.size < g) ∧ Below w.heap.size w w' := by
  obtain ⟨A, cap, rfl, _, hnone⟩ := h.val
  have c6 := h.cells.2.2.2.2.2.2
  have hl := h.lt
  have HO := Lib.hid h.own
  have HN := Lib.hid hnone
  have HNe := Lib.hid h.ne
  clear h hnone
  go_enter Try.func21, Try.ntmps21
  go_wp2_with fail
  refine (cloneF_any A cap s.ks _ (HO.out.alloc _) HN.out hn).mono ?_
  rintro e w1 ⟨v', rfl, ho, hb⟩
  have hbx := (hb.block w.heap.size (by simp)).trans (alNew rfl)
  have k0 := cell_of hbx
  have f0 := free_of hbx
  have hl1 := lt_of hbx
  have hs := hb.size
  have HB := Lib.hid (ext_trans (ext_alloc (.cells #[.slice none 0 0] 91) (Below.refl _ w)) hb)
  have HX := Lib.hid hbx
  have hv : ∀ g, v'.ownBlock = some g → w.heap.size < g := fun g hg => by have := (ho.lt g hg).1; simp at this; omega
  have HV := Lib.hid hv
  have HO1 := Lib.hid ho
  obtain ⟨A2, c2, rfl, _⟩ := row_form ho
  clear ho hb hbx hs hv
  go_wp2_with fail
  go_ret
  refine ⟨rfl, _, ⟨set_of HX.out, ?_⟩, HV.out, HB.out.setCell (p := ⟨w.heap.size, 0, none⟩) (Nat.le_refl _) _⟩
  refine row_mono (row_keep HO1.out (fun g hg => Below.heap_setCell _ _ _ _ (fun e => ?_))) (Nat.zero_le _)
  have := HV.out g hg
  dsimp only at e
  omega

set_option maxRecDepth 100000 in
set_option maxHeartbeats 2000000 in
theorem facts_stopsP {P : Fa → Prop} (n : Nat) (hn : 1 ≤ n) (b : Nat) (v : Value) (xs : List { f : Fa // P f }) (w : World) (h : FV w b v (xs.map Subtype.val)) (hx : xs.length ≤ 1000) :
    SeqStopsK Fence.wide n Try.prog 47 #[.pointer (some ⟨b, 0, none⟩)] (fun x : { f : Fa // P f } => #[.int .i64 x.1.1, .int .i64 x.1.2]) (KeepF b v) (fun ys => ys = xs) (fun pre => pre <+: xs) xs.length w := fun l J Jx W hW hJ _ hY h0 => by
  have HN := Lib.hid (h.ext hW)
  have hbW := HN.out.lt
  obtain ⟨A, cap, rfl, hA⟩ := HN.out.val
  have hlm : (xs.map Subtype.val).length = xs.length := by simp
  rw [hlm] at HN hA
  rw [hlm] at *
  have hbc : W.cell? ⟨b, 0, none⟩ = some (.slice A xs.length cap) := by simp [World.cell?, HN.out.box]
  have HA := Lib.hid hA
  clear h hA hW hlm
  refine callsIn_of_wp Try.func47 rfl trivial ?_ rfl
  simp only [Try.ntmps47, List.size_toArray, List.length_cons, List.length_nil, Nat.reduceAdd, Nat.reduceSub, Array.replicate_succ, Array.replicate_zero, List.push_toArray, List.append_toArray, List.nil_append, List.cons_append]
  gi_wp2
  gi_loopw [7] (fun i wr => ∃ k : Nat, k ≤ xs.length ∧ i = .int .i64 k ∧ J (xs.take k) wr ∧ Hid (KeepF b (.slice A xs.length cap) W wr) ) (fun i _ => xs.length - (intOf i).toNat)
  case atStart => exact ⟨0, by omega, rfl, h0, Lib.hid (KeepF.refl _ _ _)⟩
  case round =>
    obtain ⟨k, hk, rfl, hJs, HK⟩ := hrel
    by_cases hlt : k < xs.length
    · have hat : atF (xs.map Subtype.val) k = (xs[k]).1 := by simp [atF, hlt]
      cases A with
      | none =>
        exfalso
        rcases HN.out.own.2 with ⟨_, hz⟩ | ⟨g, c, cur, hv, _⟩
        · rw [List.length_map] at hz; omega
        · cases hv
      | some a =>
        obtain ⟨g, rfl, hob, hgl, hcs⟩ := HA.out a rfl
        have x0 := (World.cell?_of_block (a := ⟨g, k * 2, none⟩) (HK.out.2 g hob)).trans (hcs k hlt).1
        have x1 := (World.cell?_of_block (a := ⟨g, k * 2 + 1, none⟩) (HK.out.2 g hob)).trans (hcs k hlt).2
        rw [hat] at x0 x1
        have HT : Hid (xs.take (k + 1) = xs.take k ++ [xs[k]]) := Lib.hid (by rw [List.take_succ_eq_append_getElem hlt])
        have ek : decide ((k : Int) < (xs.length : Int)) = true := by simp; omega
        have HCS := Lib.hid hcs
        clear hcs hob hat
        have hJa : J (xs.take k) (wr.alloc (.cells #[.int .i64 (xs[k]).1.1, .int .i64 (xs[k]).1.2] 98)) :=
          hJ _ _ _ none hJs (World.grownBy_alloc _ _ none) (fun r e => by cases e)
        obtain ⟨fn, tmps, assign, body, hy, hR⟩ := hY _ (xs[k]) _ hJa (by simp; omega)
        have hJx := hR
        clear hR
        generalize hxk : xs[k] = xk at *
        gi_wp2
        refine hJx.mono ?_
        rintro e W3 (⟨rfl, hJ3, hk3⟩ | ⟨rfl, hJx3⟩)
        · gi_wp2
          have hka := (HN.out.keep HK.out).keepB ((Below.refl _ wr).alloc (Nat.le_refl _) (.cells #[.int .i64 xk.1.1, .int .i64 xk.1.2] 98)) (Nat.le_refl _)
          go_roundw
          case rel => exact ⟨k + 1, by omega, by go_num, by rw [HT.out]; exact hJ3, Lib.hid ((HK.out.trans hka).trans hk3)⟩
          case measure => simp [intOf]; omega
        · gi_wp2
          refine bodyPost_ret (results_none rfl _ _ _) rfl ?_
          exact ⟨⟨_, rfl⟩, .inr ⟨_, by rw [← HT.out]; exact List.take_prefix _ _, hJx3⟩⟩
    · have ek : decide ((k : Int) < (xs.length : Int)) = false := by simp; omega
      have hkx : k = xs.length := by omega
      have HJs : Hid (J xs wr) := Lib.hid (by rw [hkx, List.take_length] at hJs; exact hJs)
      clear hkx hJs
      gi_wp2
      go_end0
      exact ⟨⟨_, rfl⟩, .inl ⟨_, rfl, HJs.out⟩⟩

end Go.Proofs.Ytjggnhcdnfmmeaa
