/- What this text holds: the document's fabric: sending notes. No condition. -/
import Derived.Test.YtkfnjpmigifomaaDoorRf05E
import Derived.Test.YtkfnjpmigifomaaDoorRs5C
import Derived.Deep.RegionHeld3
namespace Go.Proofs.YtkfnjpmigifomaaDoor
open Go.RowKit

theorem Rf.free {w : World} {p : Nat} {cores gran depth : Int} {A : Option Addr} {cap : Nat} {xs : List Nt} (h : Rf w p cores gran depth A cap xs) (i : Nat) : w.frozen? ⟨p, i, none⟩ = false := by simp [World.frozen?, h.bx]
theorem Rf.none0 {w : World} {p : Nat} {cores gran depth : Int} {A : Option Addr} {cap : Nat} {xs : List Nt} (h : Rf w p cores gran depth A cap xs) : A = none → xs.length = 0 ∧ cap = 0 := h.sl.none0 h.nz
/-- What the document's fabric holds behind Send. -/
def sentD (c : Cfg) (n : Nat) (xs ys : List Nt) : List Nt := if sendD c n xs ys = 0 then xs ++ ys else xs
section
variable {w w1 w2 w3 : World} {p : Nat} {c : Cfg} {A : Option Addr} {cap n : Nat} {xs ys : List Nt}
/-- Both lists stand there. -/
theorem Rf.sent (h : Rf w p c.co c.gr c.de A cap xs) (h1 : Below w.heap.size w w1) {A3 A4 : Option Addr} {c3 c4 : Nat} (ho3 : w2.ownsRow w.heap.size 74 9 (.slice A3 xs.length c3) xs.length (flatN xs)) (hg2 : w1.grownBy w2 none)
    (ho4 : w3.ownsRow w.heap.size 74 9 (.slice A4 (xs.length + ys.length) c4) (xs.length + ys.length) (flatN xs ++ flatN ys)) (hg3 : w2.grownBy w3 (Value.slice A3 xs.length c3).ownBlock) :
    Rf (w3.setCell ⟨p, 3, none⟩ (.slice A4 (xs.length + ys.length) c4)) p c.co c.gr c.de A4 c4 (xs ++ ys) ∧ Tch w (w3.setCell ⟨p, 3, none⟩ (.slice A4 (xs.length + ys.length) c4)) p none ∧ (∀ a, A4 = some a → w.heap.size ≤ a.block ∧ a.block < (w3.setCell ⟨p, 3, none⟩ (.slice A4 (xs.length + ys.length) c4)).heap.size) := by
  have hpl := lt_of h.bx
  have hb2 : Below w.heap.size w w2 := h1.grown hg2 h1.size (fun k e => by cases e)
  have hb3 : Below w.heap.size w w3 := below_grown hb2 ho3 (Nat.le_refl _) hg3
  have hx3 := (hb3.block p hpl).trans h.bx
  have ho4' : w3.ownsRow w.heap.size 74 9 (.slice A4 (xs.length + ys.length) c4) (xs ++ ys).length (flatN (xs ++ ys)) := by rw [List.length_append, flatN_app]; exact ho4
  obtain ⟨A5, c5, e5, hs5, _, hn5, hg5⟩ := rowN_val ho4'
  obtain ⟨rfl, rfl⟩ : A4 = A5 ∧ c4 = c5 := by
    injection e5 with e6 e7 e8
    exact ⟨e6, e8⟩
  have hgl : ∀ a, A4 = some a → w.heap.size ≤ a.block ∧ a.block < (w3.setCell ⟨p, 3, none⟩ (.slice A4 (xs.length + ys.length) c4)).heap.size := fun a e => by
    obtain ⟨g, rfl⟩ := hg5 a e
    subst e
    have h9 := ho4.lt g rfl
    exact ⟨h9.1, by simpa using h9.2⟩
  have hsz := hb3.size
  refine ⟨⟨?_, hs5.of_block (by simp) (fun a e => Below.heap_setCell _ _ _ _ (by have := hgl a e; simp; omega)), (fun a e => by have := hgl a e; omega), hn5⟩, ⟨hb3.os, hb3.tape, hb3.output, by simpa using hsz, fun k hk hkp _ => (Below.heap_setCell _ _ _ _ (by simpa using hkp)).trans (hb3.block k hk)⟩, hgl⟩
  rw [Joins.block_setCell (i := 3) hx3 _]
  simp [List.length_append]
/-- The notes are taken back. -/
theorem Rf.back (h : Rf w p c.co c.gr c.de A cap xs) {Z : World} {A4 : Option Addr} {c4 : Nat} {zs : List Nt} (hz : Rf Z p c.co c.gr c.de A4 c4 zs) (ht : Tch w Z p none) (hb : Below Z.heap.size Z w3) :
    RfP w (w3.setCell ⟨p, 3, none⟩ (.slice A xs.length cap)) p c.co c.gr c.de A xs := by
  have hpl := lt_of h.bx
  have hs1 := ht.size
  have hs2 := hb.size
  have ho : ∀ k, k < w.heap.size → k ≠ p → (w3.setCell ⟨p, 3, none⟩ (.slice A xs.length cap)).heap[k]? = w.heap[k]? := fun k hk hp => (Below.heap_setCell _ _ _ _ (by simpa using hp)).trans ((hb.block k (by omega)).trans (ht.block k hk hp (fun e => by cases e)))
  refine ⟨⟨A, cap, ⟨?_, ?_, h.ne, h.nz⟩, fun a e => .inl e⟩, ⟨hb.os.trans ht.os, hb.tape.trans ht.tape, hb.output.trans ht.output, by simp; omega, fun k hk hp _ => ho k hk hp⟩⟩
  · rw [Joins.block_setCell (i := 3) ((hz.ext hb).bx) _]
    rfl
  · intro h0
    obtain ⟨b, off, rfl, hbl, hcs⟩ := h.sl h0
    have hbp : b ≠ p := h.ne _ rfl
    refine ⟨b, off, rfl, by simp; omega, fun i hi j u hu => ?_⟩
    exact (World.cell?_of_block (a := ⟨b, off + i * 9 + j, none⟩) (ho b hbl hbp)).trans (hcs i hi j u hu)
theorem Rf.fwd {Z : World} {A4 : Option Addr} {c4 : Nat} {zs : List Nt} (hz : Rf Z p c.co c.gr c.de A4 c4 zs) (ht : Tch w Z p none) (hg : ∀ a, A4 = some a → w.heap.size ≤ a.block ∧ a.block < Z.heap.size) (hb : Below Z.heap.size Z w3) :
    RfP w w3 p c.co c.gr c.de A zs := by
  have hs1 := ht.size
  have hs2 := hb.size
  exact ⟨⟨A4, c4, hz.ext hb, fun a e => .inr ⟨(hg a e).1, Nat.lt_of_lt_of_le (hg a e).2 hs2⟩⟩, ⟨hb.os.trans ht.os, hb.tape.trans ht.tape, hb.output.trans ht.output, by omega, fun k hk hp hr => (hb.block k (by omega)).trans (ht.block k hk hp hr)⟩⟩
theorem Rf.still (h : Rf w p c.co c.gr c.de A cap xs) (hb : Below w.heap.size w w1) : RfP w w1 p c.co c.gr c.de A xs :=
  ⟨⟨A, cap, h.ext hb, fun _ e => .inl e⟩, ⟨hb.os, hb.tape, hb.output, hb.size, fun k hk _ _ => hb.block k hk⟩⟩
set_option maxRecDepth 100000 in
set_option maxHeartbeats 8000000 in
theorem r5send_any (hok : c.ok) (h : Rf w p c.co c.gr c.de A cap xs) (hn : (n : Int) = 4 * c.co) (hx : xs.length ≤ 500) (A0 : Option Addr) (cap0 : Nat) (hA0 : SlN w A0 ys) (hc0 : A0 = none → cap0 = 0) (hy : ys.length ≤ 20) :
    Calls Tryd.prog 80 #[.pointer (some ⟨p, 0, none⟩), .slice A0 ys.length cap0] w fun e w' => e = .returned (.int .i64 (sendD c n xs ys)) ∧ RfP w w' p c.co c.gr c.de A (sentD c n xs ys) := by
  have H := Lib.hid h
  have HA := Lib.hid hA0
  have HN0 := Lib.hid (hA0.none0 hc0)
  have HLE := Lib.hid (And.intro hx hy)
  have HN := Lib.hid hn
  have hco := hok.1
  have hgr := hok.2.1
  unfold okAt at hco hgr
  have HCB := Lib.hid (And.intro hco hgr)
  obtain ⟨i0, hi, hz0, hz1, hz2⟩ := info_parts info_note
  have pl := lt_of h.bx
  have hyl : (ys.length : Int) ≤ 20 := by omega
  clear h hA0 hc0 hx hy hn hok hco hgr
  go_enter Tryd.func80, Tryd.ntmps80
  go_wp2_with fail
  go_loopg [5, 6] ys.length (fun g s5 s6 wr => ∃ k : Nat, s5 = .int .i64 k ∧ k + g = ys.length ∧ Hid (Below w.heap.size w wr ∧ ∀ j, j < k → chkN c (atN ys j) = 0))
  case atStart => exact ⟨0, rfl, by omega, Lib.hid ⟨Below.refl _ _, fun j hj => by omega⟩⟩
  case round =>
    obtain ⟨k, rfl, hk, HR⟩ := hrel
    by_cases hlt : k < ys.length
    · have ek : decide ((k : Int) < (ys.length : Int)) = true := by simp; omega
      have ek2 : decide (k < ys.length) = true := by simpa using hlt
      have HLT := Lib.hid (And.intro hk hlt)
      obtain ⟨bb, off, rfl, hbb, hcs⟩ := HA.out (by omega)
      have hB := HR.out.1
      have hbB : bb < wr.heap.size := Nat.lt_of_lt_of_le hbb hB.size
      obtain ⟨x, hxx⟩ : ∃ x, x = atN ys k := ⟨_, rfl⟩
      have HXX := Lib.hid hxx
      have cx : ∀ jj u, x.cells[jj]? = some u → wr.cell? ⟨bb, off + k * 9 + jj, none⟩ = some u := fun jj u hu => (hB.cell (p := ⟨bb, off + k * 9 + jj, none⟩) hbb).trans (hcs _ hlt jj u (hxx ▸ hu))
      have x0 : wr.cell? ⟨bb, off + k * 9, none⟩ = _ := cx 0 _ rfl
      have x1 := cx 1 _ rfl
      have x2 := cx 2 _ rfl
      have x3 := cx 3 _ rfl
      have x4 := cx 4 _ rfl
      have x5 := cx 5 _ rfl
      have x6 := cx 6 _ rfl
      have x7 := cx 7 _ rfl
      have x8 := cx 8 _ rfl
      have hkl : (k : Int) < (ys.length : Int) := by omega
      obtain ⟨c0, c1, c2, c3, plr⟩ := (H.out.ext hB).cells
      have HCK := Lib.hid (fun (W : World) => by have := rcheck3_any c.co c.gr (by have := HCB.out; omega) (by have := HCB.out; omega) x W; rw [chk3_eq] at this; unfold Nt.val at this; exact this)
      clear cx hcs hxx hk hB hlt
      rcases chk_res c x with hq0 | hq0 | hq0
      · rw [hq0] at HCK
        have HQ0 := Lib.hid hq0
        clear hq0
        go_wp2_with fail
        refine region_past (by kernel_rfl) (by kernel_rfl) ?_; (repeat (go_big_quiet_step ((go_at_call 100; exact calls_past (HCK.out _))))); refine wpQuiet_nil ?_; rintro _ ⟨p, rfl⟩
        go_wp2_with fail
        have HB6 := Lib.hid (ext_past p (ext_trans HR.out.1 (Below.refl _ _)))
        go_roundg (ys.length - (k + 1))
        case measure => have := HLT.out; omega
        case rel => exact ⟨k + 1, by go_num, by have := HLT.out; omega, Lib.hid ⟨HB6.out, fun j hj => by
          by_cases e : j = k
          · subst e; rw [← HXX.out]; exact HQ0.out
          · exact HR.out.2 j (by omega)⟩⟩
      · rw [hq0] at HCK
        have hsr : sendD c n xs ys = 10 := by
          unfold sendD
          rw [firstBad_at c ys k HLT.out.2 HR.out.2 (by rw [← HXX.out, hq0]; omega), ← HXX.out, hq0]
          rfl
        have HSR := Lib.hid hsr
        clear hq0 hsr
        go_wp2_with fail
        refine region_past (by kernel_rfl) (by kernel_rfl) ?_; (repeat (go_big_quiet_step ((go_at_call 100; exact calls_past (HCK.out _))))); refine wpQuiet_nil ?_; rintro _ ⟨p, rfl⟩
        go_wp2_with fail
        have HB6 := Lib.hid (ext_past p (ext_trans HR.out.1 (Below.refl _ _)))
        go_ret
        exact ⟨ret_int HSR.out.symm, by unfold sentD; rw [HSR.out, if_neg (by omega)]; exact H.out.still HB6.out⟩
      · rw [hq0] at HCK
        have hsr : sendD c n xs ys = 15 := by
          unfold sendD
          rw [firstBad_at c ys k HLT.out.2 HR.out.2 (by rw [← HXX.out, hq0]; omega), ← HXX.out, hq0]
          rfl
        have HSR := Lib.hid hsr
        clear hq0 hsr
        go_wp2_with fail
        refine region_past (by kernel_rfl) (by kernel_rfl) ?_; (repeat (go_big_quiet_step ((go_at_call 100; exact calls_past (HCK.out _))))); refine wpQuiet_nil ?_; rintro _ ⟨p, rfl⟩
        go_wp2_with fail
        have HB6 := Lib.hid (ext_past p (ext_trans HR.out.1 (Below.refl _ _)))
        go_ret
        exact ⟨ret_int HSR.out.symm, by unfold sentD; rw [HSR.out, if_neg (by omega)]; exact H.out.still HB6.out⟩
    · have ek : decide ((k : Int) < (ys.length : Int)) = false := by simp; omega
      have ek2 : decide (k < ys.length) = false := by simpa using hlt
      have HFB := Lib.hid (firstBad_no c ys (fun j hj => HR.out.2 j (by omega)))
      have HB := Lib.hid HR.out.1
      have hrf := H.out.ext HB.out
      obtain ⟨c0, c1, c2, c3, plr⟩ := hrf.cells
      have HS1 := Lib.hid hrf.sl
      have HS2 := Lib.hid (HA.out.ext HB.out)
      have HN1 := Lib.hid H.out.none0
      clear HR hlt hk hrf
      go_wp2_with (at_builtin; refine wpList_append_full _ rfl _ _ 69 rfl w.heap.size 74 i0 Nt.zero.val 9 72 Tryd.underlying69 hi hz0 hz1 hz2 rfl (by decide) (.slice none 0 0) 0 [] rfl (World.ownsRow_nil _ _ _ _) A xs.length cap (flatN xs) rfl HN1.out (flatN_len _) HS1.out.full (flatN_one _) ?c3 ?c4 ?c5 ?_)
      case c3 => have := HLE.out; unfold maxLen; omega
      case c4 => have := HLE.out; omega
      case c5 => exact HB.out.size
      intro A3 c3' w2 h3 ho hg hf3
      have HO2 : Hid (w2.ownsRow w.heap.size 74 9 (.slice A3 xs.length c3') xs.length (flatN xs)) := Lib.hid (by simpa using ho)
      have HG2 := Lib.hid hg
      have hb2 : Below w.heap.size w w2 := HB.out.grown hg HB.out.size (fun k e => by cases e)
      have HB2 := Lib.hid hb2
      have HS3 := Lib.hid (HA.out.ext hb2)
      clear h3 ho hg hf3 hb2 c0 c1 c2 c3 plr
      go_wp2_with (at_builtin; refine wpList_append_full _ rfl _ _ 69 rfl w.heap.size 74 i0 Nt.zero.val 9 72 Tryd.underlying69 hi hz0 hz1 hz2 rfl (by decide) (.slice A3 xs.length c3') xs.length (flatN xs) rfl HO2.out A0 ys.length cap0 (flatN ys) rfl HN0.out (flatN_len _) HS3.out.full (flatN_one _) ?c6 ?c7 ?c8 ?_)
      case c6 => have := HLE.out; unfold maxLen; omega
      case c7 => have := HLE.out; omega
      case c8 => exact HB2.out.size
      intro A4 c4 w3 h4 ho hg hf4
      have hsn := H.out.sent HB.out HO2.out HG2.out ho hg
      have hrf3 := H.out.ext (below_grown HB2.out HO2.out (Nat.le_refl _) hg)
      obtain ⟨c0, c1, c2, c3, plr⟩ := hrf3.cells
      have cf := hrf3.free 3
      clear h4 ho hg hf4 hrf3
      obtain ⟨Z, hZ⟩ : ∃ Z, Z = w3.setCell ⟨p, 3, none⟩ (.slice A4 (xs.length + ys.length) c4) := ⟨_, rfl⟩
      rw [← hZ] at hsn
      have HZ := Lib.hid hsn
      have HZE := Lib.hid hZ
      clear hsn hZ HB2 HO2 HG2 HS3 HB HS1 HS2 HN1
      go_wp2_with fail
      rw [← HZE.out]
      clear c0 c1 c2 c3 cf plr HZE
      obtain ⟨m, hm⟩ : ∃ m : Nat, c.co = m := ⟨c.co.toNat, by have := HCB.out; omega⟩
      have hm4 : m ≤ 4 := by have := HCB.out; omega
      have HM := Lib.hid (And.intro hm hm4)
      go_loopg [9] m (fun g s9 wr => ∃ i : Nat, s9 = .int .i64 i ∧ i + g = m ∧ Hid (Below Z.heap.size Z wr) ∧ Hid (∀ j, j < i * 4 → ((ofN (xs ++ ys) ((j / 4 : Nat) : Int) ((j % 4 : Nat) : Int)).length : Int) ≤ c.de))
      case atStart => exact ⟨0, rfl, by omega, Lib.hid (Below.refl _ _), Lib.hid (fun j hj => by omega)⟩
      case round =>
        obtain ⟨i, rfl, hi, HB, HG⟩ := hrel
        obtain ⟨c0, c1, c2, c3, plr⟩ := (HZ.out.1.ext HB.out).cells
        rw [HM.out.1] at c0
        by_cases hlt : i < m
        · have ek : decide ((i : Int) < (m : Int)) = true := by simp; omega
          have ek2 : decide (i < m) = true := by simpa using hlt
          have HI := Lib.hid (And.intro hi hlt)
          clear hi
          have hi4 : i < 4 := by omega
          go_wp2_with fail
          clear c0 c1 c2 c3 plr
          go_loopg [10] 4 (fun g s10 wr => ∃ k : Nat, s10 = .int .i64 k ∧ k + g = 4 ∧ Hid (Below Z.heap.size Z wr) ∧ Hid (∀ j, j < i * 4 + k → ((ofN (xs ++ ys) ((j / 4 : Nat) : Int) ((j % 4 : Nat) : Int)).length : Int) ≤ c.de))
          case atStart => exact ⟨0, rfl, by omega, HB, HG⟩
          case round =>
            clear HB HG
            obtain ⟨k, rfl, hk, HB, HG⟩ := hrel
            by_cases hkl : k < 4
            · have ej : decide ((k : Int) < 4) = true := by simp; omega
              have ej2 : decide (k < 4) = true := by simpa using hkl
              have HK := Lib.hid (And.intro hk hkl)
              have hk4 : (k : Int) < 4 := by omega
              have HOF := Lib.hid (fun (W : World) (hb : Below Z.heap.size Z W) => rof_any (HZ.out.1.ext hb) (by have := HLE.out; simp; omega) (i : Int) (k : Int))
              obtain ⟨L, hL⟩ : ∃ L, L = (ofN (xs ++ ys) (i : Int) (k : Int)).length := ⟨_, rfl⟩
              have HL := Lib.hid hL
              have hL1 : (L : Int) ≤ 1000 := by
                have h1 : (ofN (xs ++ ys) (i : Int) (k : Int)).length ≤ (xs ++ ys).length := List.length_filter_le _ _
                have := HLE.out
                simp at h1
                omega
              have hbz := HB.out
              obtain ⟨c0, QQ, c2, c3, plr⟩ := (HZ.out.1.ext HB.out).cells
              clear hk hL c0 c3
              have QQ := c2
              clear c2
              have HLN : Hid (L = (ofN (xs ++ ys) (((i * 4 + k) / 4 : Nat) : Int) (((i * 4 + k) % 4 : Nat) : Int)).length) := Lib.hid (by rw [show (i * 4 + k) / 4 = i by omega, show (i * 4 + k) % 4 = k by omega]; exact HL.out)
              by_cases hgt : (L : Int) > c.de
              · have eg : decide ((L : Int) > c.de) = true := by simpa using hgt
                have eg2 : decide (c.de < (L : Int)) = true := by simpa using hgt
                have HSD : Hid (sendD c n xs ys = 11) := Lib.hid (by
                  unfold sendD
                  rw [if_pos HFB.out, if_neg]
                  intro h9
                  have h8 := h9 (i * 4 + k) (by have := HN.out; have := HM.out; omega)
                  rw [← HLN.out] at h8
                  omega)
                clear hgt hkl
                go_wp2_with fail
                go_region_held3 (fun w' => w'.cell? ⟨p, 2, none⟩ = some (.int .i64 c.de)) (exact QQ) (first | (go_at_call 83; refine (HOF.out _ (by repeat (with_reducible first | exact Below.refl _ _ | assumption | (refine ext_next (by assumption) ?_) | apply ext_alloc | apply ext_past | apply ext_drew | apply ext_drewN))).mono ?_; rintro e w4 ⟨v, rfl, hv, hb⟩; obtain ⟨A1, cap1, rfl, -, -, -, -⟩ := rowN_val hv; rw [← HL.out]; have QQ := (hb.cell (p := ⟨p, 2, none⟩) plr).trans QQ; have HB4 := Lib.hid (ext_next hb (show Below Z.heap.size Z _ by repeat (with_reducible first | exact Below.refl _ _ | assumption | (refine ext_next (by assumption) ?_) | apply ext_alloc | apply ext_past | apply ext_drew | apply ext_drewN))); clear hv hb; obtain ⟨d0, d1, d2, d3, dl⟩ := (HZ.out.1.ext HB4.out).cells; have df := (HZ.out.1.ext HB4.out).free 3; clear d0 d1 d2))
                all_goals
                  go_wp2_with fail
                  go_ret
                  exact ⟨ret_int HSD.out.symm, by unfold sentD; rw [HSD.out, if_neg (by omega)]; exact H.out.back HZ.out.1 HZ.out.2.1 HB4.out⟩
              · have eg : decide ((L : Int) > c.de) = false := by simpa using hgt
                have eg2 : decide (c.de < (L : Int)) = false := by simpa using hgt
                have HGN : Hid (∀ j, j < i * 4 + (k + 1) → ((ofN (xs ++ ys) ((j / 4 : Nat) : Int) ((j % 4 : Nat) : Int)).length : Int) ≤ c.de) := Lib.hid (fun j hj => by
                  by_cases e : j = i * 4 + k
                  · subst e; rw [← HLN.out]; omega
                  · exact HG.out j (by omega))
                clear hgt hkl
                go_wp2_with fail
                go_region_held3 (fun w' => w'.cell? ⟨p, 2, none⟩ = some (.int .i64 c.de)) (exact QQ) (first | (go_at_call 83; refine (HOF.out _ (by repeat (with_reducible first | exact Below.refl _ _ | assumption | (refine ext_next (by assumption) ?_) | apply ext_alloc | apply ext_past | apply ext_drew | apply ext_drewN))).mono ?_; rintro e w4 ⟨v, rfl, hv, hb⟩; obtain ⟨A1, cap1, rfl, -, -, -, -⟩ := rowN_val hv; rw [← HL.out]; have QQ := (hb.cell (p := ⟨p, 2, none⟩) plr).trans QQ; have HB4 := Lib.hid (ext_next hb (show Below Z.heap.size Z _ by repeat (with_reducible first | exact Below.refl _ _ | assumption | (refine ext_next (by assumption) ?_) | apply ext_alloc | apply ext_past | apply ext_drew | apply ext_drewN))); clear hv hb))
                all_goals
                  go_wp2_with fail
                  go_roundg (4 - (k + 1))
                  case measure => have := HK.out; omega
                  case rel => exact ⟨k + 1, by go_num, by have := HK.out; omega, HB4, HGN⟩
            · have ej : decide ((k : Int) < 4) = false := by simp; omega
              have ej2 : decide (k < 4) = false := by simpa using hkl
              obtain rfl : k = 4 := by omega
              have HG2 : Hid (∀ j, j < (i + 1) * 4 → ((ofN (xs ++ ys) ((j / 4 : Nat) : Int) ((j % 4 : Nat) : Int)).length : Int) ≤ c.de) := Lib.hid (fun j hj => HG.out j (by omega))
              clear hk hkl HG
              go_wp2_with fail
              go_roundg (m - (i + 1))
              case measure => have := HI.out; omega
              case rel => exact ⟨i + 1, by go_num, by have := HI.out; omega, HB, HG2⟩
        · have ek : decide ((i : Int) < (m : Int)) = false := by simp; omega
          have ek2 : decide (i < m) = false := by simpa using hlt
          have HSD : Hid (sendD c n xs ys = 0) := Lib.hid (by
            unfold sendD
            rw [if_pos HFB.out, if_pos]
            intro j hj
            exact HG.out j (by have := HN.out; have := HM.out; omega))
          clear hi hlt
          go_wp2_with fail
          go_ret
          exact ⟨ret_int HSD.out.symm, by unfold sentD; rw [if_pos HSD.out]; exact Rf.fwd HZ.out.1 HZ.out.2.1 HZ.out.2.2 HB.out⟩
end

end Go.Proofs.YtkfnjpmigifomaaDoor
