/- LockPlays: for every script the lock does as the document says: without a condition. -/
import Derived.Test.YtkgfnldcgdlffaaWWords
import Derived.Test.YtkgfnldcgdlffaaWLast
import Derived.Test.YtkgfnldcgdlffaaLockRef
import Derived.Deep.RegionHeld
import Derived.Deep.RegionHeld3
import Derived.Deep.DrawnRows
namespace Go.Proofs.Ytkgfnldcgdlffaa.LockPlaysW
open Go Go.RowKit Go.Proofs.YtkgfnldcgdlffaaKit Go.Proofs.Ytkgfnldcgdlffaa.Mem Go.Proofs.Ytkgfnldcgdlffaa.LockKeys Go.Proofs.Ytkgfnldcgdlffaa.LockBase Go.Proofs.Ytkgfnldcgdlffaa.LockAwake Go.Proofs.Ytkgfnldcgdlffaa.LockStep Go.Proofs.Ytkgfnldcgdlffaa.LockRef Go.Proofs.YtkgfnldcgdlffaaW.PrintWords Go.Proofs.YtkgfnldcgdlffaaW.PrintLast
attribute [local go_sem ↓] Go.wp_at_zero Go.wp_at_succ
set_option linter.unusedVariables false
set_option linter.unusedSimpArgs false
/-- The lock and the reference's, both in state s. -/
structure P2 (w W : World) (g B r : Nat) (lb : Option Nat) (cap : Nat) (s : St) : Prop where
  l : Lk w W g B s.1 s.2
  ok : Ok s
  k : Rk w W r lb cap s
  o : g < r ∧ B < r
section
variable {w W W' : World} {g B r : Nat} {lb : Option Nat} {cap : Nat} {s s' : St}
theorem P2.up (h : P2 w W g B r lb cap s) : Up s.2 := h.l.map.up
theorem P2.then_ (h : P2 w W g B r lb cap s) (hb : Below W.heap.size W W') : P2 w W' g B r lb cap s := ⟨h.l.then_ hb, h.ok, h.k.then_ hb, h.o⟩
theorem P2.kk (h : P2 w W g B r lb cap s) (t : Turn W W' g B) : Rk w W' r lb cap s :=
  h.k.other t h.l.ge h.l.geB (by have := h.o; omega) (by have := h.o; omega) (fun b hb => by subst hb; have := (own_base h.k.own).1; have := h.o; omega)
theorem P2.ll {lb2 : Option Nat} {cap2 : Nat} (o : g < r ∧ B < r) (ok : Ok s) (h : Lk w W g B s.1 s.2) (t : Turn W W' r r) (k : Rk w W' r lb2 cap2 s) : P2 w W' g B r lb2 cap2 s :=
  ⟨h.other t k.ge k.ge (by omega) (by omega) (by omega) (by omega), ok, k, o⟩
end
theorem and_wf (x : Int) : (Lit.int .i64 (Go.bits .and .i64 x 3)).wf = true := by
  have h : 0 ≤ Go.bits .and .i64 x 3 ∧ Go.bits .and .i64 x 3 ≤ 3 := and_range 2 (by omega) _
  exact WalkArith.wf_i64 (by omega)
theorem writer_n (w W : World) (g B : Nat) (xs : List Int) (h : Lk w W g B none xs) :
    Calls Try.prog 12 #[.pointer (some ⟨g, 0, none⟩)] W fun e W' => e = .returned (.tuple #[.int .i64 0, .bool false]) ∧ Below W.heap.size W W' := writer_calls w W g B none xs h
set_option maxRecDepth 100000 in
set_option maxHeartbeats 8000000 in
theorem walkR (A1 : Option Addr) (len1 c1 : Nat) (z1 : List Int) (A2 : Option Addr) (len2 c2 : Nat) (z2 : List Int) (few : Bool) (w : World)
    (h1 : (A1 = none ∧ len1 = 0 ∧ c1 = 0 ∧ z1 = []) ∨ ∃ x, A1 = some x ∧ len1 ≤ c1 ∧ c1 ≤ maxLen ∧ z1.length = c1 ∧ (∀ i, i < z1.length → w.cell? (x.add i) = some (.int .i64 (z1.getD i 0))) ∧ ∀ n ∈ z1, (Lit.int .i64 n).wf = true) (y1 : len1 * 8 ≤ 140737488351232)
    (h2 : (A2 = none ∧ len2 = 0 ∧ c2 = 0 ∧ z2 = []) ∨ ∃ x, A2 = some x ∧ len2 ≤ c2 ∧ c2 ≤ maxLen ∧ z2.length = c2 ∧ (∀ i, i < z2.length → w.cell? (x.add i) = some (.int .i64 (z2.getD i 0))) ∧ ∀ n ∈ z2, (Lit.int .i64 n).wf = true) (y2 : len2 * 8 ≤ 140737488351232) :
    Calls Try.prog 6 #[.slice A1 len1 c1, .slice A2 len2 c2, .bool few] w fun e w' => e = .returned (.bool true) ∧ Below w.heap.size w w' := by
  obtain ⟨l1, rfl, hr1, _, _⟩ := ReadsInt.ofRow h1
  obtain ⟨l2, rfl, hr2, _, hw2⟩ := ReadsInt.ofRow h2
  clear h1 y1 h2 y2
  obtain ⟨L1, hL1⟩ : ∃ L, L = l1.length := ⟨_, rfl⟩
  obtain ⟨L2, hL2⟩ : ∃ L, L = l2.length := ⟨_, rfl⟩
  have hwf : ∀ i : Nat, i < L2 → (Lit.int .i64 (rd l2 i)).wf = true := fun i hi => hw2 _ (by
    have hi2 : i < l2.length := by omega
    unfold rd
    rw [show ((i : Int)).toNat = i from by omega, List.getD_eq_getElem?_getD, List.getElem?_eq_getElem hi2]
    exact List.getElem_mem hi2)
  rw [← hL1] at hr1 ⊢
  rw [← hL2] at hr2 ⊢
  have R1 := hide hr1
  have R2 := hide hr2
  have WF := hide hwf
  clear hr1 hL1 hr2 hL2 hw2 hwf
  have HN := hide (new_calls w w (Below.refl _ _))
  go_enter Try.func6, Try.ntmps6
  go_wp2_with (first
    | (go_at_call 7; with_reducible refine HN.out.mono ?_; rintro e W1 ⟨g, B, rfl, hl, _, _, _⟩; have L0 := hide hl; clear hl)
    | go_in)
  have hP : P2 w (W1.alloc (.cells #[.bool false, .int .i64 0, .slice none 0 0] 37)) g B W1.heap.size none 0 (none, []) :=
    ⟨L0.out.then_ ((Below.refl _ _).alloc (Nat.le_refl _) _), ok_nil, ⟨bs_new rfl, Own.nil _ _ _ _, L0.out.below.size, L0.out.below.alloc L0.out.below.size _⟩, L0.out.lt, L0.out.map.lt⟩
  obtain ⟨r, hr⟩ : ∃ r, r = W1.heap.size := ⟨_, rfl⟩
  rw [← hr] at hP ⊢
  have PP := hide hP
  clear hP hr
  go_loopw [9] (fun v9 wr => ∃ (i : Nat) (s : St) (lb : Option Nat) (cap : Nat), i ≤ 80 ∧ v9 = .int .i64 (i : Int) ∧ P2 w wr g B r lb cap s ∧ s.2.length ≤ i) (fun v9 _ => (80 - intOf v9).toNat)
  case atStart => exact ⟨0, (none, []), none, 0, by omega, rfl, PP.out, by simp⟩
  case round =>
    obtain ⟨i, s, lb, cap, hi, rfl, hP, hl⟩ := hrel
    have P := hide hP
    have HI := hide (And.intro hi hl)
    clear hP hl
    by_cases hgo : i < L1 ∧ i < L2 ∧ i < 80
    · have p1 : ((i : Int) < (L1 : Int)) = True := eq_true (by omega)
      have p2 : ((i : Int) < (L2 : Int)) = True := eq_true (by omega)
      have p3 : ((i : Int) < 80) = True := eq_true (by omega)
      obtain ⟨ad1, rfl, _⟩ := R1.out.at_ (i : Int) (by omega) (by omega)
      obtain ⟨ad2, rfl, _⟩ := R2.out.at_ (i : Int) (by omega) (by omega)
      have RC1 := hide (show ∀ W : World, Below w.heap.size w W → W.cell? (ad1.add i) = some (.int .i64 (rd l1 i)) from fun W hb => by
        obtain ⟨ad', e, hc⟩ := (R1.out.below hb).at_ (i : Int) (by omega) (by omega)
        cases e
        simpa using hc)
      have RC2 := hide (show ∀ W : World, Below w.heap.size w W → W.cell? (ad2.add i) = some (.int .i64 (rd l2 i)) from fun W hb => by
        obtain ⟨ad', e, hc⟩ := (R2.out.below hb).at_ (i : Int) (by omega) (by omega)
        cases e
        simpa using hc)
      have lc1 := RC1.out _ P.out.k.below
      have lc2 := RC2.out _ P.out.k.below
      have hwx := WF.out i (by omega)
      obtain ⟨x, hx⟩ : ∃ x, x = rd l1 i := ⟨_, rfl⟩
      obtain ⟨y, hy⟩ : ∃ y, y = rd l2 i := ⟨_, rfl⟩
      rw [← hx] at lc1
      rw [← hy] at lc2 hwx
      have HY := hide hwx
      have HG := hide hgo
      have hw : wrap64 ((i : Int) + 1) = ((i + 1 : Nat) : Int) := by unfold wrap64; omega
      have HW := hide hw
      clear hgo hx hy hw hi hwx RC1 RC2
      go_upto_if 38 with go_in
      go_cut [10] (fun v10 wx => ∃ k : Int, v10 = .int .i64 k ∧ (Lit.int .i64 k).wf = true ∧ wx = wr)
      case first =>
        cases few
        all_goals
          go_wp2
          go_meet
        all_goals first | exact ⟨y, rfl, HY.out, rfl⟩ | exact ⟨_, rfl, and_wf y, rfl⟩
      case rest =>
        obtain ⟨k, rfl, hk, rfl⟩ := hcut
        have HK := hide hk
        clear hk
        go_upto_block 2 with go_in
        go_cut [] (fun wx => ∃ (s' : St) (lb2 : Option Nat) (cap2 : Nat), P2 w wx g B r lb2 cap2 s' ∧ s'.2.length ≤ i + 1)
        case first =>
          by_cases q0 : Go.bits .and .i64 x 3 = 0
          · have p4 : (Go.bits .and .i64 x 3 == 0) = true := by simp [q0]
            clear q0
            go_wp2_with (first
              | (go_at_call 9; refine (write_u k w _ g B s P.out.l).mono ?_; rintro e W2 ⟨rfl, hl, ht⟩; have LL := hide hl; have KK := hide (P.out.kk ht); clear hl ht)
              | (go_at_call 15; refine (rwrite_calls k w _ r lb cap s KK.out (by have := HI.out; omega)).mono ?_; rintro e W3 ⟨rfl, hk, ht⟩; have PQ := hide (P2.ll P.out.o (ok_write P.out.ok k) LL.out ht hk); clear hk ht)
              | go_in)
            go_meet
            exact ⟨_, lb, cap, PQ.out, by have := len_write s k; have := HI.out; omega⟩
          · have p4 : (Go.bits .and .i64 x 3 == 0) = false := by simp [q0]
            clear q0
            by_cases q1 : Go.bits .and .i64 x 3 = 1
            · have p5 : (Go.bits .and .i64 x 3 == 1) = true := by simp [q1]
              clear q1
              go_wp2_with (first
                | (go_at_call 8; refine (read_u k HK.out w _ g B s P.out.l (by have := HI.out; omega)).mono ?_; rintro e W2 ⟨rfl, hl, ht⟩; have LL := hide hl; have KK := hide (P.out.kk ht); clear hl ht)
                | (go_at_call 16; refine (rread_calls k w _ r lb cap s KK.out (by have := HI.out; omega) P.out.up).mono ?_; rintro e W3 ⟨lb2, cap2, rfl, hk, ht⟩; have PQ := hide (P2.ll P.out.o (ok_read P.out.ok k) LL.out ht hk); clear hk ht)
                | go_in)
              go_meet
              exact ⟨_, lb2, cap2, PQ.out, by have := len_read s k; have := HI.out; omega⟩
            · have p5 : (Go.bits .and .i64 x 3 == 1) = false := by simp [q1]
              clear q1
              go_wp2_with (first
                | (go_at_call 11; refine (leave_u k HK.out w _ g B s P.out.l P.out.ok).mono ?_; rintro e W2 ⟨rfl, hl, ht⟩; have LL := hide hl; have KK := hide (P.out.kk ht); clear hl ht)
                | (go_at_call 17; refine (rleave_calls k w _ r lb cap s KK.out (by have := HI.out; omega) P.out.ok P.out.up).mono ?_; rintro e W3 ⟨lb2, cap2, rfl, hk, ht⟩; have PQ := hide (P2.ll P.out.o (ok_leave P.out.ok k) LL.out ht hk); clear hk ht)
                | go_in)
              go_meet
              exact ⟨_, lb2, cap2, PQ.out, by have := len_leave s k; have := HI.out; omega⟩
        case rest =>
          obtain ⟨s2, lb2, cap2, hP, hl⟩ := hcut
          have PQ := hide hP
          have HL2 := hide hl
          clear hP hl
          obtain ⟨a, xs⟩ := s2
          obtain ⟨m, hm⟩ : ∃ m, xs.length = m := ⟨_, rfl⟩
          have HM := hide hm
          have HXL := hide (show xs.length ≤ 81 from by have h : xs.length ≤ i + 1 := HL2.out; have := HI.out; omega)
          cases a with
          | none =>
            clear hm
            go_upto_region 20 with (first
              | (go_at_call 12; refine (writer_n w _ g B xs PQ.out.l).mono ?_; rintro e W4 ⟨rfl, hb⟩; have P4 := hide (PQ.out.then_ hb); clear hb PQ)
              | go_in)
            obtain ⟨c0, c1, c2⟩ := P4.out.k.c
            simp only [Option.isSome_none, Option.getD_none] at c0 c1
            rw [show (none, xs).2.length = m from HM.out] at c2
            have PD := hide (P4.out.then_ (be_drew (be_refl _)))
            have HD := hide (show ∀ V, Below W4.drew.heap.size W4.drew V → V.cell? ⟨r, 0, none⟩ = some (.bool false) ∧ V.cell? ⟨r, 1, none⟩ = some (.int .i64 0) ∧ V.cell? ⟨r, 2, none⟩ = some (sl lb2 m cap2) from fun V hb => ⟨(hb.cell (World.block_lt_of_cell? W4 _ c0)).trans c0, (hb.cell (World.block_lt_of_cell? W4 _ c1)).trans c1, (hb.cell (World.block_lt_of_cell? W4 _ c2)).trans c2⟩)
            clear P4
            (first
              | (go_region_held (fun w' => w'.cell? ⟨r, 0, none⟩ = some (.bool false) ∧ w'.cell? ⟨r, 1, none⟩ = some (.int .i64 0) ∧ w'.cell? ⟨r, 2, none⟩ = some (sl lb2 m cap2)) ((first | (with_reducible exact ⟨d0, d1, d2⟩) | (with_reducible exact ⟨c0, c1, c2⟩) | go_keep))
                  ((first
                    | (go_at_call 10; refine (readers_p m w _ g B none xs PD.out.l (by have := HXL.out; omega) HM.out).mono ?_; rintro e W5 ⟨lbx, capx, rfl, ho, hb⟩; have OX := hide ho; have P5 := hide (PD.out.then_ hb); have HB5 := hide hb; obtain ⟨d0, d1, d2⟩ := HD.out _ hb; clear ho hb PD)
                    | (go_at_call 18; refine (same_p _ xs lbx lb2 m m m capx cap2 HM.out ((Rd.of OX.out).lower (Nat.zero_le _)) ((Rd.of P5.out.k.own).lower (Nat.zero_le _)) (by have := HXL.out; omega) rfl rfl).mono ?_; rintro e W6 ⟨rfl, hb⟩; have P6 := hide (P5.out.then_ hb); obtain ⟨d0, d1, d2⟩ := HD.out _ (HB5.out.trans (hb.mono HB5.out.size)); clear hb P5))))
              | fail "region")
            go_wp2
            all_goals
              refine ⟨⟨i + 1, _, _, _, by have := HG.out; omega, by rw [HW.out], P6.out, HL2.out⟩, ?_⟩
              rw [HW.out]; simp only [intOf]; have := HG.out; omega
          | some y =>
            have hx0 : xs = [] := PQ.out.ok rfl
            subst hx0
            obtain rfl : 0 = m := hm
            go_upto_region 20 with (first
              | (go_at_call 12; refine (writer_p w _ g B y [] PQ.out.l).mono ?_; rintro e W4 ⟨rfl, hb⟩; have P4 := hide (PQ.out.then_ hb); clear hb PQ)
              | go_in)
            obtain ⟨c0, c1, c2⟩ := P4.out.k.c
            simp only [Option.isSome_some, Option.getD_some] at c0 c1
            have PD := hide (P4.out.then_ (be_drew (be_refl _)))
            have HD := hide (show ∀ V, Below W4.drew.heap.size W4.drew V → V.cell? ⟨r, 0, none⟩ = some (.bool true) ∧ V.cell? ⟨r, 1, none⟩ = some (.int .i64 y) ∧ V.cell? ⟨r, 2, none⟩ = some (sl lb2 0 cap2) from fun V hb => ⟨(hb.cell (World.block_lt_of_cell? W4 _ c0)).trans c0, (hb.cell (World.block_lt_of_cell? W4 _ c1)).trans c1, (hb.cell (World.block_lt_of_cell? W4 _ c2)).trans c2⟩)
            clear P4
            (first
              | (go_region_held3 (fun w' => w'.cell? ⟨r, 0, none⟩ = some (.bool true) ∧ w'.cell? ⟨r, 1, none⟩ = some (.int .i64 y) ∧ w'.cell? ⟨r, 2, none⟩ = some (sl lb2 0 cap2)) ((first | (with_reducible exact ⟨d0, d1, d2⟩) | (with_reducible exact ⟨c0, c1, c2⟩) | go_keep))
                  ((first
                    | (go_at_call 10; refine (readers_p 0 w _ g B (some y) [] PD.out.l (by decide) rfl).mono ?_; rintro e W5 ⟨lbx, capx, rfl, ho, hb⟩; have OX := hide ho; have P5 := hide (PD.out.then_ hb); have HB5 := hide hb; obtain ⟨d0, d1, d2⟩ := HD.out _ hb; clear ho hb PD)
                    | (go_at_call 18; refine (same_p _ [] lbx lb2 0 0 0 capx cap2 rfl ((Rd.of OX.out).lower (Nat.zero_le _)) ((Rd.of P5.out.k.own).lower (Nat.zero_le _)) (by decide) rfl rfl).mono ?_; rintro e W6 ⟨rfl, hb⟩; have P6 := hide (P5.out.then_ hb); have HB6 := hide (HB5.out.trans (hb.mono HB5.out.size)); obtain ⟨d0, d1, d2⟩ := HD.out _ HB6.out; clear hb P5)
                    | (go_at_call 10; refine (readers_p 0 w _ g B (some y) [] P6.out.l (by decide) rfl).mono ?_; rintro e W7 ⟨lby, capy, rfl, ho, hb⟩; obtain ⟨q7, hq7⟩ := sl_to lby 0 capy; rw [hq7]; have P7 := hide (P6.out.then_ hb); obtain ⟨d0, d1, d2⟩ := HD.out _ (HB6.out.trans (hb.mono HB6.out.size)); clear ho hb P6 hq7))))
              | fail "region")
            go_wp2
            all_goals
              refine ⟨⟨i + 1, _, _, _, by have := HG.out; omega, by rw [HW.out], P7.out, HL2.out⟩, ?_⟩
              rw [HW.out]; simp only [intOf]; have := HG.out; omega
    · have hcase : (((i : Int) < (L1 : Int)) = False) ∨ (((i : Int) < (L1 : Int)) = True ∧ ((i : Int) < (L2 : Int)) = False) ∨ (((i : Int) < (L1 : Int)) = True ∧ ((i : Int) < (L2 : Int)) = True ∧ ((i : Int) < 80) = False) := by
        by_cases q : (i : Int) < (L1 : Int)
        · by_cases q2 : (i : Int) < (L2 : Int)
          · exact .inr (.inr ⟨eq_true q, eq_true q2, eq_false (fun q3 => hgo ⟨by omega, by omega, by omega⟩)⟩)
          · exact .inr (.inl ⟨eq_true q, eq_false q2⟩)
        · exact .inl (eq_false q)
      clear hgo hi
      rcases hcase with p1 | ⟨p1, p2⟩ | ⟨p1, p2, p3⟩
      all_goals
        go_wp2_with (first
          | (go_at_call 13; refine (awake_calls _).mono ?_; rintro e W2 ⟨rfl, hb⟩; have M10 := hide (P.out.k.below.trans (hb.mono P.out.k.below.size)); clear hb)
          | go_in)
        go_ret
        exact ⟨rfl, M10.out⟩
end Go.Proofs.Ytkgfnldcgdlffaa.LockPlaysW


