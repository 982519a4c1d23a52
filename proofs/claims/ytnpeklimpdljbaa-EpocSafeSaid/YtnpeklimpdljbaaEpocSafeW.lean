/- EpocSafe: what is given back was retired when no thread that is pinned now could have begun; with nobody pinned all is given back within three advances: for any number of threads and any script, without a condition. -/
import Derived.Test.YtnpeklimpdljbaaEpocSafeM
namespace Go.Proofs.Ytnpeklimpdljbaa.EpocSafeW
open Go.RowKit Go.Maps Go.Proofs.YtnpeklimpdljbaaKit Go.Proofs.YtnpeklimpdljbaaW.PrintWords Go.Proofs.YtnpeklimpdljbaaW.PrintLast Go.Proofs.Ytnpeklimpdljbaa.EpocBase Go.Proofs.Ytnpeklimpdljbaa.EpocOps Go.Proofs.Ytnpeklimpdljbaa.EpocRows Go.Proofs.Ytnpeklimpdljbaa.EpocAdv Go.Proofs.Ytnpeklimpdljbaa.EpocUse Go.Proofs.Ytnpeklimpdljbaa.EpocSafeM
attribute [local go_sem] cell_alloc_some cell_alloc2_some cell_alloc3_some cell_alloc4_some
set_option linter.unusedVariables false
set_option linter.unusedSimpArgs false
theorem and7 (n : Int) : ∃ N : Nat, Go.bits .and .i64 n 7 = (N : Int) ∧ N ≤ 7 := by
  have h : 0 ≤ Go.bits .and .i64 n 7 ∧ Go.bits .and .i64 n 7 ≤ 7 := and_range 3 (by omega) n
  exact ⟨(Go.bits .and .i64 n 7).toNat, by omega, by omega⟩
theorem and3 (n : Int) : ∃ N : Nat, Go.bits .and .i64 n 3 = (N : Int) ∧ N ≤ 3 := by
  have h : 0 ≤ Go.bits .and .i64 n 3 ∧ Go.bits .and .i64 n 3 ≤ 3 := and_range 2 (by omega) n
  exact ⟨(Go.bits .and .i64 n 3).toNat, by omega, by omega⟩
set_option maxHeartbeats 16000000 in
set_option maxRecDepth 100000 in
theorem walkR (th : Int) (A : Option Addr) (len c : Nat) (z : List Int) (w : World) (_ : (Lit.int .i64 th).wf = true)
    (h1 : (A = none ∧ len = 0 ∧ c = 0 ∧ z = []) ∨ ∃ x, A = some x ∧ len ≤ c ∧ c ≤ maxLen ∧ z.length = c ∧ (∀ i, i < z.length → w.cell? (x.add i) = some (.int .i64 (z.getD i 0))) ∧ ∀ n ∈ z, (Lit.int .i64 n).wf = true) (y1 : len * 8 ≤ 140737488351232) :
    Calls Try.prog 6 #[.int .i64 th, .slice A len c] w fun e w' => e = .returned (.bool true) ∧ Below w.heap.size w w' := by
  obtain ⟨l, rfl, hr, _, _⟩ := ReadsInt.ofRow h1
  clear h1 y1
  obtain ⟨L, hL⟩ : ∃ L, L = l.length := ⟨_, rfl⟩
  rw [← hL] at hr ⊢
  have R1 := hide hr
  clear hr hL
  obtain ⟨N0, hN0, hN7⟩ := and7 th
  obtain ⟨n, hn⟩ : ∃ n : Nat, n = N0 + 1 := ⟨_, rfl⟩
  have hwn : wrap64 ((N0 : Int) + 1) = (n : Int) := by unfold wrap64; omega
  have HB := hide (show 1 ≤ n ∧ n ≤ 8 by omega)
  clear hn hN7
  have HN := hide (new_calls (n : Int) n w (by have := HB.out; omega) (.inl rfl))
  have hmm := @run_makeMap Try.prog
  go_enter Try.func6, Try.ntmps6
  go_wp2_with (go_at_call 7; with_reducible refine (HN.out).mono ?_; rintro e W1 ⟨g, pb, rfl, P⟩; have P1 := hide P; clear P)
  obtain ⟨B, hB⟩ : ∃ B, B = W1.heap.size := ⟨_, rfl⟩
  rw [← hB]
  have HBB := hide hB
  clear hB
  go_loopw [7] (fun v7 wr => ∃ (i : Nat) (now : Int) (ps : List Int) (xs : List (Int × Int)) (lb : Option Nat) (cap : Nat) (D : Dw), i ≤ 80 ∧ v7 = .int .i64 (i : Int) ∧ Sx w wr g pb lb cap B now ps xs i D ∧ Inv n i now ps xs D) (fun v7 _ => (80 - intOf v7).toNat)
  case atStart =>
    refine ⟨0, 0, _, [], none, 0, _, by omega, rfl, ⟨P1.out.alloc _, by rw [HBB.out]; exact World.ownsMap_made _ _ _ _, by rw [HBB.out]; exact bs_lt P1.out.obj, by simp⟩, ⟨by simp, fun p hp => by rw [List.eq_of_mem_replicate hp]; omega, by simp, fun x hx => by simp at hx, by omega⟩⟩
  case round =>
    obtain ⟨i, now, ps, xs, lb, cap, D, hi, rfl, hS, hI⟩ := hrel
    have S := hide hS
    have I := hide hI
    clear hS hI
    by_cases hgo : i < L ∧ i < 80
    · have p1 : ((i : Int) < (L : Int)) = True := eq_true (by omega)
      have p2 : ((i : Int) < 80) = True := eq_true (by omega)
      obtain ⟨ad, rfl, _⟩ := R1.out.at_ (i : Int) (by omega) (by omega)
      have RC := hide (show ∀ W : World, Below w.heap.size w W → W.cell? (ad.add i) = some (.int .i64 (rd l i)) from fun W hb => by
        obtain ⟨ad', e, hc⟩ := (R1.out.below hb).at_ (i : Int) (by omega) (by omega)
        cases e
        simpa using hc)
      have lc := RC.out _ S.out.ep.below
      obtain ⟨z, hz⟩ : ∃ z, z = rd l i := ⟨_, rfl⟩
      rw [← hz] at lc
      obtain ⟨K, hK, hK3⟩ := and3 z
      obtain ⟨T, hT, hT7⟩ := and7 (z / 8)
      have HG := hide hgo
      have hn0 : (1 : Int) ≤ (n : Int) := by have := HB.out; omega
      obtain ⟨t, ht⟩ : ∃ t : Nat, (T : Int) % (n : Int) = (t : Int) := ⟨T % n, by simp⟩
      have htn : t < n := by
        have := Int.emod_lt_of_pos (T : Int) (show (0 : Int) < n by omega)
        omega
      have HT := hide htn
      have HW := hide (show wrap64 ((i : Int) + 1) = (i : Int) + 1 by unfold wrap64; omega)
      have HW2 := hide (show wrap64 (1000 + (i : Int)) = 1000 + (i : Int) by unfold wrap64; omega)
      have p0 : (0 : Int) ≤ (i : Int) := by omega
      clear hgo hi hz htn hT7
      go_upto_region 22 with fail
      rw [ht]
      clear ht hT p0 p1 p2 hn0
      have hks : K = 0 ∨ K = 1 ∨ K = 2 ∨ K = 3 := by omega
      rcases hks with rfl | rfl | rfl | rfl
      · go_wp2_with (go_at_call 14; with_reducible refine (s_pin S.out I.out (by have := HG.out; omega) t HT.out).mono ?_; rintro e W3 ⟨b3, ps3, rfl, S3, I3⟩; have S4 := hide S3; have I4 := hide I3; clear S3 I3)
        refine ⟨⟨i + 1, now, ps3, xs, lb, cap, D, by have := HG.out; omega, by rw [HW.out]; simp, ⟨S4.out.ep, S4.out.map.mono (Nat.le_succ _), S4.out.gb, S4.out.ne⟩, I4.out⟩, ?_⟩
        rw [HW.out]; simp only [intOf]; have := HG.out; omega
      · go_wp2_with (go_at_call 18; with_reducible refine (s_unpin S.out I.out (by have := HG.out; omega) t HT.out).mono ?_; rintro e W3 ⟨b3, rfl, S3, I3⟩; have S4 := hide S3; have I4 := hide I3.next; clear S3 I3)
        refine ⟨⟨i + 1, now, _, xs, lb, cap, D, by have := HG.out; omega, by rw [HW.out]; simp, ⟨S4.out.ep, S4.out.map.mono (Nat.le_succ _), S4.out.gb, S4.out.ne⟩, I4.out⟩, ?_⟩
        rw [HW.out]; simp only [intOf]; have := HG.out; omega
      · go_wp2_with (first
          | (go_at_call 8; with_reducible refine (s_retire S.out I.out (by have := HG.out; omega) _).mono ?_; rintro e W3 ⟨lb3, cap3, rfl, S3⟩; have S4 := hide S3; clear S3)
          | (go_at_call 11; with_reducible refine (now_calls w _ g pb _ _ _ _ _ S4.out.ep).mono ?_; rintro e v ⟨rfl, hv⟩; subst v)
          | (at_mapUpdate; refine wpList_mapUpdate_own _ rfl _ _ _ 44 rfl 3 3 law3 Try.underlying44 _ B i D rfl S4.out.map (by have := HG.out; unfold maxLen; omega) _ _ _ rfl rfl (keyOf_int_mk Try.underlying3 (wf_of (by have := HW2.out; have := HG.out; omega) (by have := HW2.out; have := HG.out; omega))) _ [] (plainElem_int Try.underlying3 (wf_of (by have := I.out.now; omega) (by have := I.out.now; have := HG.out; omega))) ?_; intro W5 hown1 hgrow1; have S5 := hide (S4.out.put hown1 hgrow1); clear hown1 hgrow1))
        have IP := I.out.push S.out.map.isMap
        rw [HW2.out] at S5
        refine ⟨⟨i + 1, now, ps, _, lb3, cap3, _, by have := HG.out; omega, by rw [HW.out]; simp, S5.out, IP⟩, ?_⟩
        rw [HW.out]; simp only [intOf]; have := HG.out; omega
      · go_wp2_with (go_at_call 9; with_reducible refine (s_adv S.out I.out (by have := HG.out; omega) HB.out.2).mono ?_; rintro e W3 ⟨oa, oc, rl, b3, now3, xs3, lb3, cap3, rfl, R3, F3, hl3, S3, I3⟩; have S4 := hide S3; have I4 := hide I3; have R4 := hide R3; have F4 := hide F3; clear S3 I3 R3 F3)
        generalize hM : rl.length = M at hl3 ⊢
        have HM := hide hM
        clear hM
        go_loopw [58] (fun v58 wr => ∃ j : Nat, j ≤ M ∧ v58 = .int .i64 (j : Int) ∧ wr = W3) (fun v58 _ => (M - intOf v58).toNat)
        case atStart => exact ⟨0, Nat.zero_le _, rfl, rfl⟩
        case round =>
          obtain ⟨j, hj, rfl, rfl⟩ := hrel
          by_cases hjm : j < M
          · have q1 : ((j : Int) < (M : Int)) = True := eq_true (by omega)
            have q0 : (0 : Int) ≤ (j : Int) := by omega
            obtain ⟨zz, hzz⟩ : ∃ zz, rl[j]? = some zz := ⟨_, List.getElem?_eq_getElem (by have := HM.out; omega)⟩
            obtain ⟨rb, rfl, hcz⟩ := RD.at_ R4.out hzz
            obtain ⟨hzb, a, hAt, hlt⟩ := F4.out zz (List.mem_of_getElem? hzz)
            have HA := hide hAt
            have HP := hide (show -9000000000000000000 ≤ zz ∧ zz ≤ 9000000000000000000 by omega)
            have HL := hide hlt
            have HJ := hide hjm
            have HWj := hide (show wrap64 ((j : Int) + 1) = (j : Int) + 1 by unfold wrap64; omega)
            clear hAt hlt hzz hjm hj hl3 hzb
            go_wp2
            go_loopw [13] (fun v13 wq => ∃ k : Nat, k ≤ n ∧ v13 = .int .i64 (k : Int) ∧ wq = wr) (fun v13 _ => (n - intOf v13).toNat)
            case atStart => exact ⟨0, Nat.zero_le _, rfl, rfl⟩
            case round =>
              obtain ⟨k, hk, rfl, rfl⟩ := hrel
              by_cases hkn : k < n
              · have r1 : ((k : Int) < (n : Int)) = True := eq_true (by omega)
                obtain ⟨p, hp, hp0, hp1⟩ := I4.out.at_ hkn
                have hnow := I4.out.now
                have HK := hide hkn
                have HWk := hide (show wrap64 ((k : Int) + 1) = (k : Int) + 1 by have := HB.out; unfold wrap64; omega)
                by_cases hz0 : p = 0
                · subst hz0
                  have HC := hide (pinned_no k w _ g pb lb3 cap3 now3 ps xs3 S4.out.ep (.inr (by simp [hp])))
                  clear hp hp0 hp1 hkn hk hnow
                  go_wp2_with (go_at_call 15; with_reducible refine HC.out.mono ?_; rintro e v ⟨rfl, hv⟩; subst v)
                  refine ⟨⟨k + 1, by have := HK.out; omega, by rw [HWk.out]; simp, by trivial⟩, ?_⟩
                  rw [HWk.out]; simp only [intOf]; have := HK.out; omega
                · have HC := hide (pinned_yes k p w _ g pb lb3 cap3 now3 ps xs3 S4.out.ep (by omega) (by simpa using hp) (by omega) (by have := HG.out; omega))
                  have hle : (p - 1 ≤ a) = False := eq_false (by have := HL.out p (List.mem_of_getElem? hp) (by omega); omega)
                  clear hp hp0 hp1 hkn hk hnow hz0
                  go_wp2_with (first
                    | (go_at_call 15; with_reducible refine HC.out.mono ?_; rintro e v ⟨rfl, hv⟩; subst v)
                    | (at_lookup; refine lookup_guard_int _ (by rfl) _ _ 44 rfl 3 3 .i64 law3 Try.underlying44 Try.underlying3 (zero3 _) B i D rfl S4.out.map _ _ rfl (keyOf_int_mk Try.underlying3 (wf_of HP.out.1 HP.out.2)) ?_; intro c hat hwc; rw [show D.atKey (.int .i64 zz) (.lit (.int .i64 0)) = .lit (.int .i64 a) from HA.out] at hat; injection hat with hat; injection hat with _ hat; subst hat; clear hwc))
                  refine ⟨⟨k + 1, by have := HK.out; omega, by rw [HWk.out]; simp, by trivial⟩, ?_⟩
                  rw [HWk.out]; simp only [intOf]; have := HK.out; omega
              · have r1 : ((k : Int) < (n : Int)) = False := eq_false (by omega)
                clear hk hkn
                go_wp2
                refine ⟨⟨j + 1, by have := HJ.out; omega, by rw [HWj.out]; simp, by trivial⟩, ?_⟩
                rw [HWj.out]; simp only [intOf]; have := HJ.out; omega
          · have q1 : ((j : Int) < (M : Int)) = False := eq_false (by omega)
            clear hj hjm hl3
            go_wp2
            refine ⟨⟨i + 1, now3, ps, xs3, lb3, cap3, D, by have := HG.out; omega, by rw [HW.out]; simp, ⟨S4.out.ep, S4.out.map.mono (Nat.le_succ _), S4.out.gb, S4.out.ne⟩, I4.out⟩, ?_⟩
            rw [HW.out]; simp only [intOf]; have := HG.out; omega
    · have hcase : (((i : Int) < (L : Int)) = False) ∨ (((i : Int) < (L : Int)) = True ∧ ((i : Int) < 80) = False) := by
        by_cases q : i < L
        · exact .inr ⟨eq_true (by omega), eq_false (by omega)⟩
        · exact .inl (eq_false (by omega))
      have HI := hide hi
      clear hgo hi
      rcases hcase with p1 | ⟨p1, p2⟩
      all_goals
        go_wp2
        go_loopw [16] (fun v16 wq => ∃ (k : Nat) (ps : List Int), k ≤ n ∧ v16 = .int .i64 (k : Int) ∧ Zer k ps ∧ Sx w wq g pb lb cap B now ps xs i D ∧ Inv n i now ps xs D) (fun v16 _ => (n - intOf v16).toNat)
        case atStart => exact ⟨0, ps, Nat.zero_le _, rfl, fun j p h => absurd h (Nat.not_lt_zero _), S.out, I.out⟩
        case round =>
          obtain ⟨k, ps2, hk, rfl, hz, hS2, hI2⟩ := hrel
          have S2 := hide hS2
          have I2 := hide hI2
          have Z2 := hide hz
          clear hS2 hI2 hz
          by_cases hkn : k < n
          · have r1 : ((k : Int) < (n : Int)) = True := eq_true (by omega)
            have HK := hide hkn
            have HWk := hide (show wrap64 ((k : Int) + 1) = (k : Int) + 1 by have := HB.out; unfold wrap64; omega)
            clear hk hkn
            go_wp2_with (go_at_call 18; with_reducible refine (s_unpin S2.out I2.out HI.out k HK.out).mono ?_; rintro e W3 ⟨b3, rfl, S3, I3⟩; have S4 := hide S3; have I4 := hide I3; clear S3 I3)
            refine ⟨⟨k + 1, _, by have := HK.out; omega, by rw [HWk.out]; simp, Z2.out.set, S4.out, I4.out⟩, ?_⟩
            rw [HWk.out]; simp only [intOf]; have := HK.out; omega
          · have r1 : ((k : Int) < (n : Int)) = False := eq_false (by omega)
            have hkn2 : k = n := by omega
            have ZA := hide (Z2.out.all (by rw [I2.out.len, hkn2]))
            clear hk hkn hkn2
            go_wp2
            go_loopw [17] (fun v17 wq => ∃ (j : Nat) (now2 : Int) (xs2 : List (Int × Int)) (lb2 : Option Nat) (cap2 : Nat), j ≤ 3 ∧ v17 = .int .i64 (j : Int) ∧ Gone j now2 xs2 ∧ xs2.length ≤ 80 ∧ (0 ≤ now2 ∧ now2 ≤ 80 + j) ∧ Sx w wq g pb lb2 cap2 B now2 ps2 xs2 i D) (fun v17 _ => (3 - intOf v17).toNat)
            case atStart => exact ⟨0, now, xs, lb, cap, by omega, rfl, ⟨fun _ x hx => (I2.out.xs x hx).1, fun e => by omega, fun e => by omega⟩, by have := I2.out.xl; have := HI.out; omega, by have := I2.out.now; have := HI.out; omega, S2.out⟩
            case round =>
              obtain ⟨j, now2, xs2, lb2, cap2, hj, rfl, hg, hl2, hn2, hS5⟩ := hrel
              have G5 := hide hg
              have L5 := hide hl2
              have N5 := hide hn2
              have S5 := hide hS5
              clear hg hl2 hn2 hS5
              by_cases hj3 : j < 3
              · have q1 : ((j : Int) < 3) = True := eq_true (by omega)
                have HJ := hide hj3
                have HWj := hide (show wrap64 ((j : Int) + 1) = (j : Int) + 1 by unfold wrap64; omega)
                clear hj hj3
                go_wp2_with (go_at_call 9; with_reducible refine (s_last S5.out ZA.out (by rw [I2.out.len]; exact HB.out.2) L5.out (by have := N5.out; have := HJ.out; omega) j G5.out).mono ?_; rintro e W6 ⟨oa6, oc6, l6, xs6, lb6, cap6, rfl, hl6, hg6, hS6⟩; have L6 := hide hl6; have G6 := hide hg6; have S6 := hide hS6; clear hl6 hg6 hS6)
                refine ⟨⟨j + 1, now2 + 1, xs6, lb6, cap6, by have := HJ.out; omega, by rw [HWj.out]; simp, G6.out, L6.out, by have := N5.out; omega, S6.out⟩, ?_⟩
                rw [HWj.out]; simp only [intOf]; have := HJ.out; omega
              · have q1 : ((j : Int) < 3) = False := eq_false (by omega)
                have hx := G5.out.2.2 (by omega)
                subst hx
                have HW := hide (waiting_rd w _ g pb lb2 cap2 now2 ps2 [] S5.out.ep (by simp))
                clear hj hj3
                go_wp2_with (first
                  | (go_at_call 12; with_reducible refine HW.out.mono ?_; rintro e W7 ⟨oa7, oc7, rfl, _, hb7⟩; have E7 := hide (S5.out.ep.below_then hb7); clear hb7)
                  | (go_at_call 13; refine (awake_calls _).mono ?_; rintro e W8 ⟨rfl, hb8⟩))
                go_ret
                exact ⟨rfl, be_call hb8 E7.out.below.size E7.out.below⟩
end Go.Proofs.Ytnpeklimpdljbaa.EpocSafeW

