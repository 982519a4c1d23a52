/- AtomRace: of many who swap what they read, each that read what is there wins, and no other; a cell comes to its sum: for every row of numbers, twice, without a condition. -/
import Derived.Maps.OwnSet
import Derived.Test.YtbmbejgkkadklaaKit
import Derived.Test.YtbmbejgkkadklaaPAtomPlaysx1
namespace Go.Proofs.Ytbmbejgkkadklaa.AtomRaceW
open Go.RowKit Go.Maps Go.Proofs.YtbmbejgkkadklaaKit Go.Proofs.Ytbmbejgkkadklaa.PAtomPlays Go.Proofs.YtbmbejgkkadklaaW.PrintWords Go.Proofs.YtbmbejgkkadklaaW.PrintLast
set_option linter.unusedVariables false
set_option linter.unusedSimpArgs false

theorem law3 : Keyed Try.prog 3 := int_keyed Try.underlying3
theorem zero3 (w : World) : (zeroValue 3).run Try.prog w = .ok (.int .i64 0) w := by kernel_rfl
theorem wf_of {x : Int} (h0 : -9000000000000000000 ≤ x) (h1 : x ≤ 9000000000000000000) : (Lit.int .i64 x).wf = true := by
  exact WalkArith.wf_i64 (by omega)
theorem wf_and7 (x : Int) : (Lit.int .i64 (Go.bits .and .i64 x 7)).wf = true := by
  have h := and_range 3 (by omega) x
  change 0 ≤ Go.bits .and .i64 x 7 ∧ Go.bits .and .i64 x 7 ≤ 7 at h
  exact wf_of (by omega) (by omega)
theorem wrap_small (n : Int) (h0 : -100000 ≤ n) (h1 : n ≤ 100000000) : wrap64 n = n := by unfold wrap64; omega
theorem keep_grown {w0 w w' : World} {g : Nat} (hb : Below w0.heap.size w0 w) (hb' : Below w0.heap.size w0 w') (h : KeepBut w w' g none) : w.grownBy w' (some g) :=
  ⟨hb'.os.trans hb.os.symm, hb'.tape.trans hb.tape.symm, hb'.output.trans hb.output.symm, h.1, fun k hk hne => h.2 k hk (fun e => hne (by rw [e])) (by simp)⟩
/-- The facts of a round: the cell holds a, put t times; the map is one of at most m entries; nothing that was there has turned. -/
structure St (w W : World) (g B : Nat) (a t : Int) (m : Nat) (D : DataW Unit) : Prop where
  cell : IsS36 w W g a t
  map : W.ownsMap Try.prog 3 (plainElem Try.prog 3) B m D
  below : Below w.heap.size w W
  ne : g ≠ B
  ge : w.heap.size ≤ B
theorem St.load {w W W' : World} {g B : Nat} {a t a' t' : Int} {m : Nat} {D : DataW Unit} (h : St w W g B a t m D) (hi : IsS36 w W' g a' t') (hb : Below w.heap.size w W') (hk : KeepBut W W' g none) : St w W' g B a' t' m D :=
  ⟨hi, h.map.kept (keep_grown h.below hb hk) (by intro e; exact h.ne (by injection e with e; exact e.symm)), hb, h.ne, h.ge⟩
theorem St.put {w W W' : World} {g B : Nat} {a t : Int} {m m' : Nat} {D D' : DataW Unit} (h : St w W g B a t m D) (ho : W'.ownsMap Try.prog 3 (plainElem Try.prog 3) B m' D') (hg : W.grownBy W' (some B)) : St w W' g B a t m' D' :=
  ⟨h.cell.grown hg (by intro e; exact h.ne (by injection e with e)), ho, h.below.grown hg h.below.size (fun k e => by injection e with e; exact e ▸ h.ge), h.ne, h.ge⟩
theorem St.mono {w W : World} {g B : Nat} {a t : Int} {m m' : Nat} {D : DataW Unit} (h : St w W g B a t m D) (hm : m ≤ m') : St w W g B a t m' D := ⟨h.cell, h.map.mono hm, h.below, h.ne, h.ge⟩

theorem awake_t : polyptychlaw17_awake.f = some true := by decide +kernel
theorem load (w W : World) (g : Nat) (a t : Int) (hI : IsS36 w W g a t) (hB : Below w.heap.size w W) :
    Calls Try.prog 6 #[.pointer (some ⟨g, 0, none⟩)] W fun e W' => e = .returned (.int .i64 a) ∧ IsS36 w W' g a t ∧ Below w.heap.size w W' ∧ KeepBut W W' g none := atom_Cell_Load.calls g a t a a t w W hI hB rfl
theorem times (w W : World) (g : Nat) (a t : Int) (hI : IsS36 w W g a t) (hB : Below w.heap.size w W) :
    Calls Try.prog 9 #[.pointer (some ⟨g, 0, none⟩)] W fun e W' => e = .returned (.int .i64 t) ∧ IsS36 w W' g a t ∧ Below w.heap.size w W' ∧ KeepBut W W' g none := atom_Cell_Times.calls g a t t a t w W hI hB rfl
theorem add (w W : World) (g : Nat) (a t n : Int) (hI : IsS36 w W g a t) (hB : Below w.heap.size w W) :
    Calls Try.prog 8 #[.pointer (some ⟨g, 0, none⟩), .int .i64 n] W fun e W' => e = .returned (.int .i64 a) ∧ IsS36 w W' g (wrap64 (a + n)) (wrap64 (t + 1)) ∧ Below w.heap.size w W' ∧ KeepBut W W' g none := atom_Cell_Add.calls g a t n a (wrap64 (a + n)) (wrap64 (t + 1)) w W hI hB rfl
theorem swap_yes (w W : World) (g : Nat) (a t n : Int) (hI : IsS36 w W g a t) (hB : Below w.heap.size w W) :
    Calls Try.prog 7 #[.pointer (some ⟨g, 0, none⟩), .int .i64 a, .int .i64 n] W fun e W' => e = .returned (.bool true) ∧ IsS36 w W' g n (wrap64 (t + 1)) ∧ Below w.heap.size w W' ∧ KeepBut W W' g none := atom_Cell_Swap.calls g a t a n true n (wrap64 (t + 1)) w W hI hB (by unfold atom_Cell_Swap.f; rw [if_pos rfl]; rfl)
theorem swap_no (w W : World) (g : Nat) (a t c n : Int) (hc : a ≠ c) (hI : IsS36 w W g a t) (hB : Below w.heap.size w W) :
    Calls Try.prog 7 #[.pointer (some ⟨g, 0, none⟩), .int .i64 c, .int .i64 n] W fun e W' => e = .returned (.bool false) ∧ IsS36 w W' g a t ∧ Below w.heap.size w W' ∧ KeepBut W W' g none := atom_Cell_Swap.calls g a t c n false a t w W hI hB (by unfold atom_Cell_Swap.f; rw [if_neg hc])

set_option maxRecDepth 100000 in
theorem walk (A1 : Option Addr) (len1 c1 : Nat) (z1 : List Int) (A2 : Option Addr) (len2 c2 : Nat) (z2 : List Int) (w : World)
    (h1 : (A1 = none ∧ len1 = 0 ∧ c1 = 0 ∧ z1 = []) ∨ ∃ x, A1 = some x ∧ len1 ≤ c1 ∧ c1 ≤ maxLen ∧ z1.length = c1 ∧ (∀ i, i < z1.length → w.cell? (x.add i) = some (.int .i64 (z1.getD i 0))) ∧ ∀ n ∈ z1, (Lit.int .i64 n).wf = true) (y1 : len1 * 8 ≤ 140737488351232)
    (h2 : (A2 = none ∧ len2 = 0 ∧ c2 = 0 ∧ z2 = []) ∨ ∃ x, A2 = some x ∧ len2 ≤ c2 ∧ c2 ≤ maxLen ∧ z2.length = c2 ∧ (∀ i, i < z2.length → w.cell? (x.add i) = some (.int .i64 (z2.getD i 0))) ∧ ∀ n ∈ z2, (Lit.int .i64 n).wf = true) (y2 : len2 * 8 ≤ 140737488351232) :
    Calls Try.prog 3 #[.slice A1 len1 c1, .slice A2 len2 c2] w fun e w' => e = .returned (.bool true) ∧ Below w.heap.size w w' := by
  obtain ⟨l1, rfl, hr1, hm1, hw1, hc1⟩ := ReadsInt.ofRowC h1
  obtain ⟨l2, rfl, hr2, hm2, hw2, hc2⟩ := ReadsInt.ofRowC h2
  clear h1 h2
  have R1 := Aside0.mk hr1
  have R2 := Aside0.mk hr2
  clear hr1 hr2 hw1 hw2 hm1 hm2 hc1 hc2
  have hmm := @run_makeMap Try.prog
  have HN := Aside0.mk (atom_New.calls 0 0 0 w w (Below.refl _ _) rfl)
  go_enter Try.func3, Try.ntmps3
  go_wp2_with (first
    | (go_at_call 5; with_reducible refine (HN.out).mono ?_; rintro e W1 ⟨g, rfl, hI, hB, _⟩; have I0 := Aside0.mk hI; have B0 := Aside0.mk hB; clear hI hB)
    | go_in)
  go_loopw [7, 8, 9] (fun v7 v8 v9 wr => ∃ (i a t : Int) (D : DataW Unit), (0 ≤ i ∧ i ≤ 60 ∧ 0 ≤ a ∧ a ≤ 2000) ∧ v7 = .int .i64 a ∧ v8 = .int .i64 t ∧ v9 = .int .i64 i ∧ St w wr g W1.heap.size a t i.toNat D)
    (fun _ _ v9 _ => (60 - intOf v9).toNat)
  case atStart => exact ⟨0, 0, 0, .map [], ⟨by omega, by omega, by omega, by omega⟩, rfl, rfl, rfl, ⟨I0.out.alloc _, World.ownsMap_made _ _ _ _, (B0.out).alloc B0.out.size _, Nat.ne_of_lt (IsS36.lt I0.out), B0.out.size⟩⟩
  case round =>
    obtain ⟨i, a, t, D, ⟨i0, i1, a0, a1⟩, rfl, rfl, rfl, hS⟩ := hrel
    have S0 := Aside0.mk hS
    have RA := Aside0.mk (And.intro a0 a1)
    clear hS a0 a1
    have RI := Aside0.mk (And.intro i0 i1)
    clear i1
    have go : (i < l1.length ∧ i < 60) ∨ ¬ (i < l1.length ∧ i < 60) := Decidable.em _
    rcases go with ⟨q1, q2⟩ | hx
    · obtain ⟨ad, rfl, hc⟩ := R1.out.at_ i i0 q1
      replace hc := (S0.out.below.cell (World.block_lt_of_cell? w _ hc)).trans hc
      have p0 := eq_true i0
      have p1 := eq_true q1
      have p2 := eq_true q2
      clear i0 q1 q2
      go_upto_region 11 with (first
        | (at_lookup; refine wpList_lookup_own_ok_int _ rfl _ _ 25 rfl 3 3 .i64 law3 Try.underlying25 Try.underlying3 (zero3 _) W1.heap.size i.toNat D rfl S0.out.map _ _ rfl (keyOf_int_mk Try.underlying3 (wf_and7 _)) ?_; intro c hat hwc)
        | go_in)
      have S0' := S0
      have kl := Aside0.mk hat
      clear hat hwc
      go_upto_region 15 with (first
        | (go_at_call 6; with_reducible refine (load w _ g a t S0.out.cell S0.out.below).mono ?_; rintro e W2 ⟨rfl, hi, hb, hk⟩; have S1 := Aside0.mk (S0.out.load hi hb hk); clear hi hb hk S0)
        | (at_mapUpdate; refine wpList_mapUpdate_own _ rfl _ _ _ 25 rfl 3 3 law3 Try.underlying25 _ W1.heap.size i.toNat D rfl S1.out.map (by have := RI.out; unfold maxLen; omega) _ _ _ rfl rfl (keyOf_int_mk Try.underlying3 (wf_and7 _)) _ [] (plainElem_int Try.underlying3 (wf_of (by have := RA.out; omega) (by have := RA.out; omega))) ?_; intro W3 hown1 hgrow1; have S2 := Aside0.mk (S1.out.put hown1 hgrow1); clear hown1 hgrow1 S1)
        | (at_lookup; have S3 := S2; refine wpList_lookup_own_int _ rfl _ _ 25 rfl 3 3 .i64 law3 Try.underlying25 Try.underlying3 (zero3 _) W1.heap.size (i.toNat + 1) _ rfl S2.out.map _ _ rfl (keyOf_int_mk Try.underlying3 (wf_and7 _)) ?_; intro c2 hat2 hwc2; rw [atKey_put_same S0'.out.map.isMap (by trivial)] at hat2; injection hat2 with hat2; injection hat2 with _ hat2; subst hat2; clear hwc2)
        | go_in)
      rotate_left 2
      · have hw : wrap64 (i + 1) = i + 1 := wrap_small _ (by have := RI.out; omega) (by have := RI.out; omega)
        have hw2 : wrap64 (1000 + i) = 1000 + i := wrap_small _ (by have := RI.out; omega) (by have := RI.out; omega)
        have hn : (i + 1).toNat = i.toNat + 1 := by have := RI.out; omega
        have HW := Aside0.mk hw
        have HW2 := Aside0.mk hw2
        have HN := Aside0.mk hn
        clear hw hw2 hn
        by_cases hca : a = c
        · subst hca
          go_wp2_with (first
            | (go_at_call 7; with_reducible refine (swap_yes w _ g a t _ S0.out.cell S0.out.below).mono ?_; rintro e W2 ⟨rfl, hi, hb, hk⟩; have S1 := Aside0.mk (S0.out.load hi hb hk); clear hi hb hk S0)
            | (at_delete; refine wpList_delete_own _ rfl _ _ 25 3 rfl 3 law3 Try.underlying25 _ W1.heap.size i.toNat D rfl S1.out.map _ _ rfl (keyOf_int_mk Try.underlying3 (wf_and7 _)) ?_; intro W3 hown1 hturn1; have S2 := Aside0.mk (S1.out.put hown1 hturn1.grown); clear hown1 hturn1 S1)
            | go_in)
          have hn := HN.out
          refine ⟨⟨i + 1, 1000 + i, wrap64 (t + 1), _, ⟨by have := RI.out; omega, by have := RI.out; have := of_eq_true p2; omega, by have := RI.out; omega, by have := RI.out; omega⟩, by rw [HW2.out], rfl, by rw [HW.out], by rw [hn]; exact HW2.out ▸ S2.out.mono (Nat.le_succ _)⟩, ?_⟩
          rw [HW.out]; simp only [intOf]; have := of_eq_true p2; omega
        · have hca1 : (c = a) = False := eq_false (fun e => hca e.symm)
          have hca2 : (a = c) = False := eq_false hca
          go_wp2_with (first
            | (go_at_call 7; with_reducible refine (swap_no w _ g a t c _ hca S0.out.cell S0.out.below).mono ?_; rintro e W2 ⟨rfl, hi, hb, hk⟩; have S1 := Aside0.mk (S0.out.load hi hb hk); clear hi hb hk S0)
            | (at_delete; refine wpList_delete_own _ rfl _ _ 25 3 rfl 3 law3 Try.underlying25 _ W1.heap.size i.toNat D rfl S1.out.map _ _ rfl (keyOf_int_mk Try.underlying3 (wf_and7 _)) ?_; intro W3 hown1 hturn1; have S2 := Aside0.mk (S1.out.put hown1 hturn1.grown); clear hown1 hturn1 S1)
            | go_in)
          have hn := HN.out
          refine ⟨⟨i + 1, a, t, _, ⟨by have := RI.out; omega, by have := RI.out; have := of_eq_true p2; omega, RA.out.1, RA.out.2⟩, rfl, rfl, by rw [HW.out], by rw [hn]; exact S2.out.mono (Nat.le_succ _)⟩, ?_⟩
          rw [HW.out]; simp only [intOf]; have := of_eq_true p2; omega
      all_goals
        have hw : wrap64 (i + 1) = i + 1 := wrap_small _ (by have := RI.out; omega) (by have := RI.out; omega)
        have hn : (i + 1).toNat = i.toNat + 1 := by have := RI.out; omega
        refine ⟨⟨i + 1, a, ⟨by have := RI.out; omega, by have := RI.out; have := of_eq_true p2; omega, RA.out.1, RA.out.2⟩, rfl, hw, _, by rw [hn]; exact S3.out⟩, ?_⟩
        rw [hw]; simp only [intOf]; have := of_eq_true p2; omega
    · have p0 := eq_true i0
      clear i0
      have hcase : ((i < l1.length) = False) ∨ ((i < l1.length) = True ∧ (i < 60) = False) := by
        by_cases q : i < l1.length
        · exact .inr ⟨eq_true q, eq_false (fun q2 => hx ⟨q, q2⟩)⟩
        · exact .inl (eq_false q)
      clear hx
      rcases hcase with p1 | ⟨p1, p2⟩
      all_goals
        go_wp2
        go_loopw [8, 13, 14] (fun v8 v13 v14 wq => ∃ (j s n : Int), (0 ≤ j ∧ j ≤ 40) ∧ v8 = .int .i64 n ∧ v13 = .int .i64 s ∧ v14 = .int .i64 j ∧ IsS36 w wq g s n ∧ Below w.heap.size w wq)
          (fun _ _ v14 _ => (40 - intOf v14).toNat)
        case atStart => exact ⟨0, a, t, ⟨by omega, by omega⟩, rfl, rfl, rfl, S0.out.cell, S0.out.below⟩
        case round =>
          obtain ⟨j, s, n, ⟨j0, j1⟩, rfl, rfl, rfl, hI, hB⟩ := hrel
          have I1 := Aside0.mk hI
          have B1 := Aside0.mk hB
          have RJ := Aside0.mk (And.intro j0 j1)
          clear hI hB j1
          have go : (j < l2.length ∧ j < 40) ∨ ¬ (j < l2.length ∧ j < 40) := Decidable.em _
          rcases go with ⟨q1, q2⟩ | hx
          · obtain ⟨ad, rfl, hc⟩ := R2.out.at_ j j0 q1
            have hc0 := Aside0.mk hc
            replace hc := (B1.out.cell (World.block_lt_of_cell? w _ hc)).trans hc
            have e0 := eq_true j0
            have e1 := eq_true q1
            have e2 := eq_true q2
            have RQ := Aside0.mk q2
            clear j0 q1 q2
            go_wp2_with (first
              | (go_at_call 8; with_reducible refine (add w _ g s n _ I1.out B1.out).mono ?_; rintro e W2 ⟨rfl, hi, hb, _⟩; have I2 := Aside0.mk hi; have B2 := Aside0.mk hb; have hc2 := (hb.cell (World.block_lt_of_cell? w _ hc0.out)).trans hc0.out; clear hi hb I1 B1)
              | go_in)
            have hw : wrap64 (j + 1) = j + 1 := wrap_small _ (by have := RJ.out; omega) (by have := RJ.out; omega)
            have HW := Aside0.mk hw
            refine ⟨⟨j + 1, _, _, ⟨by have := RJ.out; omega, by have := RQ.out; omega⟩, rfl, rfl, by rw [HW.out], I2.out, B2.out⟩, ?_⟩
            rw [HW.out]; simp only [intOf]; have := RQ.out; omega
          · have e0 := eq_true j0
            clear j0
            have hcase : ((j < l2.length) = False) ∨ ((j < l2.length) = True ∧ (j < 40) = False) := by
              by_cases q : j < l2.length
              · exact .inr ⟨eq_true q, eq_false (fun q2 => hx ⟨q, q2⟩)⟩
              · exact .inl (eq_false q)
            clear hx
            rcases hcase with e1 | ⟨e1, e2⟩
            all_goals
              go_wp2_with (first
                | (go_at_call 6; with_reducible refine (load w _ g s n I1.out B1.out).mono ?_; rintro e W2 ⟨rfl, hi, hb, _⟩; have I2 := Aside0.mk hi; have B2 := Aside0.mk hb; clear hi hb I1 B1)
                | (go_at_call 9; with_reducible refine (times w _ g s n I2.out B2.out).mono ?_; rintro e W3 ⟨rfl, hi, hb, _⟩; have I3 := Aside0.mk hi; have B3 := Aside0.mk hb; clear hi hb I2 B2)
                | (go_at_call 10; refine (polyptychlaw17_awake.calls true _ awake_t).mono ?_; rintro e W4 ⟨rfl, hb4⟩)
                | go_in)
              go_ret
              exact ⟨rfl, B3.out.trans (hb4.mono B3.out.size)⟩
end Go.Proofs.Ytbmbejgkkadklaa.AtomRaceW

