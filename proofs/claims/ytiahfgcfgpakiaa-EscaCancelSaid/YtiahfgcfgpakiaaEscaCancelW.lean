/- EscaCancel: a cancel, or a substitute, ends whatever was begun; what comes next is as if nothing had been: for every input, without a condition. -/
import Derived.Test.YtiahfgcfgpakiaaEscaInv
namespace Go.Proofs.Ytiahfgcfgpakiaa.EscaCancelW
open Go Go.RowKit Go.Proofs.YtiahfgcfgpakiaaKit Go.Proofs.Ytiahfgcfgpakiaa.Mem Go.Proofs.YtiahfgcfgpakiaaW.PrintWords Go.Proofs.YtiahfgcfgpakiaaW.PrintLast Go.Proofs.Ytiahfgcfgpakiaa.Split Go.Proofs.Ytiahfgcfgpakiaa.EscaVal
set_option linter.unusedVariables false
set_option linter.unusedSimpArgs false
set_option maxHeartbeats 8000000 in
set_option maxRecDepth 100000 in
theorem walkR (A1 : Option Addr) (len1 c1 : Nat) (z1 : List Int) (sub : Bool) (A2 : Option Addr) (len2 c2 : Nat) (z2 : List Int) (w : World)
    (h1 : (A1 = none ∧ len1 = 0 ∧ c1 = 0 ∧ z1 = []) ∨ ∃ x, A1 = some x ∧ len1 ≤ c1 ∧ c1 ≤ maxLen ∧ z1.length = c1 ∧ (∀ i, i < z1.length → w.cell? (x.add i) = some (.int .i64 (z1.getD i 0))) ∧ ∀ n ∈ z1, (Lit.int .i64 n).wf = true) (y1 : len1 * 8 ≤ 140737488351232)
    (h2 : (A2 = none ∧ len2 = 0 ∧ c2 = 0 ∧ z2 = []) ∨ ∃ x, A2 = some x ∧ len2 ≤ c2 ∧ c2 ≤ maxLen ∧ z2.length = c2 ∧ (∀ i, i < z2.length → w.cell? (x.add i) = some (.int .i64 (z2.getD i 0))) ∧ ∀ n ∈ z2, (Lit.int .i64 n).wf = true) (y2 : len2 * 8 ≤ 140737488351232) :
    Calls Try.prog 6 #[.slice A1 len1 c1, .bool sub, .slice A2 len2 c2] w fun e w' => e = .returned (.bool true) ∧ Below w.heap.size w w' := by
  obtain ⟨l1, rfl, hr1, _, _⟩ := ReadsInt.ofRow h1
  obtain ⟨l2, rfl, hr2, _, _⟩ := ReadsInt.ofRow h2
  clear h1 y1 h2 y2
  have R1 := hide (rd_of_reads hr1)
  have R2 := hide (rd_of_reads hr2)
  obtain ⟨L1, hL1⟩ : ∃ n, l1.length = n := ⟨_, rfl⟩
  obtain ⟨L2, hL2⟩ : ∃ n, l2.length = n := ⟨_, rfl⟩
  rw [hL1, hL2]
  have HL1 := hide hL1
  have HL2 := hide hL2
  obtain ⟨N1, hN1⟩ : ∃ n, (bytesP l1).length = n := ⟨_, rfl⟩
  obtain ⟨N2, hN2⟩ : ∃ n, (bytesP l2).length = n := ⟨_, rfl⟩
  have HN1 := hide hN1
  have HN2 := hide hN2
  have hI := inv_e0.feed (bytesP l1)
  have hI2 := inv_e0.feed (bytesP l2)
  have hpar := feed_par wf_e0 (bytesP l2)
  have hfl := feed_len e0 (bytesP l2)
  have hbl := bytesP_len l2
  obtain ⟨⟨s, l⟩, hs⟩ : ∃ u, feedP e0 (bytesP l1) = u := ⟨_, rfl⟩
  obtain ⟨⟨v, y⟩, hv⟩ : ∃ u, feedP e0 (bytesP l2) = u := ⟨_, rfl⟩
  rw [hs] at hI
  rw [hv] at hI2 hpar hfl
  dsimp only at hI hI2 hpar hfl
  have HS := hide hs
  have HV := hide hv
  have HI := hide hI
  have HI2 := hide hI2
  have HPAR := hide hpar
  obtain ⟨k1, hk1⟩ : ∃ n, l.length = n := ⟨_, rfl⟩
  obtain ⟨ky, hky⟩ : ∃ n, y.length = n := ⟨_, rfl⟩
  have HK1 := hide hk1
  have HKY := hide (And.intro hky (show ky ≤ 1000000 by omega))
  clear hr1 hr2 hL1 hL2 hN1 hN2 hI hI2 hpar hfl hbl hs hv hk1 hky
  cases sub with
  | false =>
    go_enter Try.func6, Try.ntmps6
    go_upto_region 5 with (first
      | (go_at_call 16; (with_reducible refine (bytes_at l1 N1 HN1.out L1 HL1.out A1 c1 _ ?hr).mono ?_); (case hr => exact R1.out.below (by (repeat (first | (with_reducible assumption) | with_reducible exact be_refl _ | (with_reducible refine be_set ?_ (by dsimp only; omega)) | (with_reducible apply be_drew) | (with_reducible apply be_drewN) | (with_reducible refine be_alloc ?_ (by first | omega | (simp; omega) | simp)) | (with_reducible refine be_call (by with_reducible assumption) (by first | omega | (simp; omega) | simp) ?_))))); rintro e w9 ⟨o9, cap9, rfl, hR9, hb9⟩; have HR9 := hide hR9; have hz9 := hb9.size; (try simp at hz9); clear hR9)
      | (go_at_call 11; (with_reducible refine (feed_zero_at (bytesP l1) (bytesP_ok l1) (by have := bytesP_len l1; omega) N1 HN1.out s l HS.out k1 HK1.out _ _ _ HR9.out).mono ?_); rintro e w8 ⟨A3, c3, lb3, cap3, o3, ds3, rfl, hc3, hp3, ho3, ha3, hb8⟩; have HP3 := hide (And.intro hc3 (PF.of hp3)); have hz8 := hb8.size; (try simp at hz8); clear hc3 hp3 ho3 ha3))
    refine wp_letter (fun W => W.heap[w8.heap.size]? = some (.cells (esC s A3 c3) 33 (0, 0)) ∧ PF W A3 s.ps ∧ Below w.heap.size w W) ⟨?_, ?_, ?_⟩ ?_
    · unfold esC; (apply bs_eq; (case h => (repeat (first | (with_reducible assumption) | (with_reducible apply bs_same) | (with_reducible apply bs_far; case hp => (dsimp only; omega)) | (with_reducible apply bs_drew) | (with_reducible apply bs_drewN) | (with_reducible apply bs_new; (first | (with_reducible rfl) | (simp; done))) | (with_reducible apply bs_alloc) | (with_reducible apply bs_below; (case hb => with_reducible assumption); (case hB => first | omega | (simp; omega) | (simp; done)))))); (case e => rfl))
    · exact HP3.out.2.below (by (repeat (first | (with_reducible assumption) | with_reducible exact be_refl _ | (with_reducible refine be_set ?_ (by dsimp only; omega)) | (with_reducible apply be_drew) | (with_reducible apply be_drewN) | (with_reducible refine be_alloc ?_ (by first | omega | (simp; omega) | simp)) | (with_reducible refine be_call (by with_reducible assumption) (by first | omega | (simp; omega) | simp) ?_))))
    · (repeat (first | (with_reducible assumption) | with_reducible exact be_refl _ | (with_reducible refine be_set ?_ (by dsimp only; omega)) | (with_reducible apply be_drew) | (with_reducible apply be_drewN) | (with_reducible refine be_alloc ?_ (by first | omega | (simp; omega) | simp)) | (with_reducible refine be_call (by with_reducible assumption) (by first | omega | (simp; omega) | simp) ?_)))
    obtain ⟨G1, hG1⟩ : ∃ G, G = w8.heap.size := ⟨_, rfl⟩
    rw [← hG1]
    have HC3 := hide HP3.out.1
    clear hG1 HP3 HR9 hb9 hb8 hz9 hz8 HK1
    rintro M ⟨kG, hP, hB⟩
    have HP := hide hP
    have HB := hide hB
    have sG := bs_lt kG
    have kG2 := kG
    have hMs := hB.size
    unfold esC at kG2
    obtain ⟨x0, x1, x2, x3, x4, x5, x6, x7, _⟩ := cells8 kG2
    have hcan := cancel_plain HI.out (b := 24) (by omega)
    obtain ⟨⟨t, x⟩, htx⟩ : ∃ u, stepP s 24 = u := ⟨_, rfl⟩
    rw [htx] at hcan
    dsimp only at hcan
    have HT := hide ((feed_one s 24).trans htx)
    have HCAN := hide hcan
    obtain ⟨k2, hk2⟩ : ∃ n, x.length = n := ⟨_, rfl⟩
    have HK2 := hide hk2
    clear hP kG2 htx hcan hk2
    go_upto_region 6 with (go_at_call 11; (with_reducible refine (feed_next_at s HI.out.wf [24] (by intro z hz; simp at hz; omega) (by simp) 1 rfl t x HT.out k2 HK2.out A3 c3 _ _ _ HC3.out ?hp ?hr).mono ?_); (case hp => exact HP.out.below (by (repeat (first | (with_reducible assumption) | with_reducible exact be_refl _ | (with_reducible refine be_set ?_ (by dsimp only; omega)) | (with_reducible apply be_drew) | (with_reducible apply be_drewN) | (with_reducible refine be_alloc ?_ (by first | omega | (simp; omega) | simp)) | (with_reducible refine be_call (by with_reducible assumption) (by first | omega | (simp; omega) | simp) ?_))))); (case hr => exact rd_block (bs_new rfl) rfl); rintro e w8 ⟨A4, c4, lb4, cap4, o4, ds4, rfl, hc4, hp4, ho4, ha4, hb8⟩; have HP4 := hide (PF.of hp4); have hz8 := hb8.size; (try simp at hz8); obtain ⟨hc8, hf8⟩ := be_cells hb8; have q1 := (fun o => hc8 G1 o (by simp; omega)); have q2 : G1 < w8.heap.size := (by omega); have q3 : G1 ≠ w8.heap.size := (by omega); clear hc4 hp4 ho4 ha4)
    by_cases hm : s.m = 5
    · have hc5 := HCAN.out.1 hm
      have hk0 : k2 = 0 := by rw [← HK2.out, hc5.2]; rfl
      subst hk0
      have hm3 := hc5.1
      have m5 : (s.m == 5) = true := by simp [hm]
      have m3 : (t.m == 3) = true := by simp [hm3]
      clear hc5 hm hm3
      go_wp2_with (go_at_call 13; (with_reducible refine (awake_val _).mono ?_); rintro e w7 ⟨rfl, hb7⟩)
      go_ret
      exact ⟨rfl, by have hz8' := hb8.size; simp at hz8'; (repeat (first | (with_reducible assumption) | with_reducible exact be_refl _ | (with_reducible refine be_set ?_ (by dsimp only; omega)) | (with_reducible apply be_drew) | (with_reducible apply be_drewN) | (with_reducible refine be_alloc ?_ (by first | omega | (simp; omega) | simp)) | (with_reducible refine be_call (by with_reducible assumption) (by first | omega | (simp; omega) | simp) ?_)))⟩
    · obtain ⟨ht0, hn0, hx1⟩ := HCAN.out.2 hm
      subst ht0
      rw [HK2.out] at hx1
      have HN0 := hide hn0
      clear hn0
      have m5 : (s.m == 5) = false := by simp [hm]
      clear hm
      refine wp_letter (fun W => W.heap[G1]? = some (.cells (esC s A3 c3) 33 (0, 0)) ∧ W.heap[w8.heap.size]? = some (.cells #[.int .i64 0, .int .i64 0, .int .i64 0, .int .i64 0, .slice A4 0 c4, .int .i64 0, .bool false, .bool false] 33 (0, 0)) ∧ PF W A4 [] ∧ Below w.heap.size w W) ⟨?_, ?_, ?_, ?_⟩ ?_
      · (repeat (first | (with_reducible assumption) | (with_reducible apply bs_same) | (with_reducible apply bs_far; case hp => (dsimp only; omega)) | (with_reducible apply bs_drew) | (with_reducible apply bs_drewN) | (with_reducible apply bs_new; (first | (with_reducible rfl) | (simp; done))) | (with_reducible apply bs_alloc) | (with_reducible apply bs_below; (case hb => with_reducible assumption); (case hB => first | omega | (simp; omega) | (simp; done)))))
      · (apply bs_eq; (case h => (repeat (first | (with_reducible assumption) | (with_reducible apply bs_same) | (with_reducible apply bs_far; case hp => (dsimp only; omega)) | (with_reducible apply bs_drew) | (with_reducible apply bs_drewN) | (with_reducible apply bs_new; (first | (with_reducible rfl) | (simp; done))) | (with_reducible apply bs_alloc) | (with_reducible apply bs_below; (case hb => with_reducible assumption); (case hB => first | omega | (simp; omega) | (simp; done)))))); (case e => rfl))
      · exact HP4.out.below (by (repeat (first | (with_reducible assumption) | with_reducible exact be_refl _ | (with_reducible refine be_set ?_ (by dsimp only; omega)) | (with_reducible apply be_drew) | (with_reducible apply be_drewN) | (with_reducible refine be_alloc ?_ (by first | omega | (simp; omega) | simp)) | (with_reducible refine be_call (by with_reducible assumption) (by first | omega | (simp; omega) | simp) ?_))))
      · have := HB.out; (repeat (first | (with_reducible assumption) | with_reducible exact be_refl _ | (with_reducible refine be_set ?_ (by dsimp only; omega)) | (with_reducible apply be_drew) | (with_reducible apply be_drewN) | (with_reducible refine be_alloc ?_ (by first | omega | (simp; omega) | simp)) | (with_reducible refine be_call (by with_reducible assumption) (by first | omega | (simp; omega) | simp) ?_)))
      obtain ⟨G2, hG2⟩ : ∃ G, G = w8.heap.size := ⟨_, rfl⟩
      rw [← hG2]
      have hG12 : G1 ≠ G2 := by rw [hG2]; (try simp at hz8); omega
      clear hG2 HP4 hb8 hz8 hc8 hf8 kG HP HB sG x0 x1 x2 x3 x4 x5 x6 x7 q1 hMs hB
      rintro N ⟨kG, kH, hP, hB⟩
      have HP := hide hP
      have HB := hide hB
      have sG := bs_lt kG
      have sH := bs_lt kH
      have hNs := hB.size
      unfold esC at kG
      obtain ⟨x0, x1, x2, x3, x4, x5, x6, x7, _⟩ := cells8 kG
      obtain ⟨y0, y1, y2, y3, y4, y5, y6, y7, _⟩ := cells8 kH
      have hcase : ((s.n1 == 0) = true ∧ k2 = 0) ∨ ((s.n1 == 0) = false ∧ ((1 : Int) < (k2 : Int)) = False) := by
        by_cases h : s.n1 = 0
        · exact .inl ⟨by simp [h], by rw [← HK2.out, HN0.out h]; rfl⟩
        · exact .inr ⟨by simp [h], eq_false (by omega)⟩
      have hk1 : (k2 : Int) ≤ 1 := by omega
      clear hP
      rcases hcase with ⟨p1, rfl⟩ | ⟨p1, p2⟩
      all_goals
        go_upto_region 10 with (go_at_call 15; (with_reducible refine (sameEsc_zero _ _ _ _ _).mono ?_); rintro e w7 ⟨rfl, hb7⟩; have hz7 := hb7.size; (try simp at hz7); obtain ⟨hc7, hf7⟩ := be_cells hb7)
        refine wp_letter (fun W => W.heap[G2]? = some (.cells #[.int .i64 0, .int .i64 0, .int .i64 0, .int .i64 0, .slice A4 0 c4, .int .i64 0, .bool false, .bool false] 33 (0, 0)) ∧ PF W A4 [] ∧ Below w.heap.size w W) ⟨?_, ?_, ?_⟩ ?_
        · (repeat (first | (with_reducible assumption) | (with_reducible apply bs_same) | (with_reducible apply bs_far; case hp => (dsimp only; omega)) | (with_reducible apply bs_drew) | (with_reducible apply bs_drewN) | (with_reducible apply bs_new; (first | (with_reducible rfl) | (simp; done))) | (with_reducible apply bs_alloc) | (with_reducible apply bs_below; (case hb => with_reducible assumption); (case hB => first | omega | (simp; omega) | (simp; done)))))
        · exact HP.out.below (by (repeat (first | (with_reducible assumption) | with_reducible exact be_refl _ | (with_reducible refine be_set ?_ (by dsimp only; omega)) | (with_reducible apply be_drew) | (with_reducible apply be_drewN) | (with_reducible refine be_alloc ?_ (by first | omega | (simp; omega) | simp)) | (with_reducible refine be_call (by with_reducible assumption) (by first | omega | (simp; omega) | simp) ?_))))
        · (repeat (first | (with_reducible assumption) | with_reducible exact be_refl _ | (with_reducible refine be_set ?_ (by dsimp only; omega)) | (with_reducible apply be_drew) | (with_reducible apply be_drewN) | (with_reducible refine be_alloc ?_ (by first | omega | (simp; omega) | simp)) | (with_reducible refine be_call (by with_reducible assumption) (by first | omega | (simp; omega) | simp) ?_)))
        clear kG kH HP HB sG sH hNs hB x0 x1 x2 x3 x4 x5 x6 x7 y0 y1 y2 y3 y4 y5 y6 y7 hb7 hz7 hc7 hf7
        rintro N ⟨kH, hP, hB⟩
        have hNs := hB.size
        go_cut [12, 13] (fun v12 v13 wx => ∃ (G3 : Nat) (A5 : Option Addr) (c5 : Nat) (lb5 : Option Nat) (cap5 : Nat) (o5 : Option Addr) (ds5 : List ActD), v12 = .pointer (some ⟨G3, 0, none⟩) ∧ v13 = .slice o5 ky cap5 ∧ sl lb5 ky cap5 = .slice o5 ky cap5 ∧ wx.heap[G3]? = some (.cells (esC v A5 c5) 33 (0, 0)) ∧ PF wx A5 v.ps ∧ AR wx lb5 y ds5 ∧ Below w.heap.size w wx)
        case first =>
          obtain ⟨y0, y1, y2, y3, y4, y5, y6, y7, _⟩ := cells8 kH
          have HPN := hide hP
          have HBN := hide hB
          have sN := bs_lt kH
          have HCL := hide (fun (W : World) (hb : Below N.heap.size N W) (o : Nat) => (be_cells hb).1 G2 o sN)
          refine wp_region_held (S := fun W' => Below N.heap.size N W') (by kernel_rfl) ?_
          have HB1 := hide (show Below N.heap.size N N.drew from be_drew (be_refl _))
          have JC := hide (show Below N.heap.size N N.drew from be_drew (be_refl _))
          change wpAnyH _ _ _ _ _ _ _ _ N.drew
          generalize N.drew = W0 at *
          refine take_ (i := 0) (v := ?_) rfl (by kernel_rfl) (by kernel_rfl) (by kernel_rfl) (fun _ _ _ h => h) (Or.inl ⟨by rfl, ?_⟩) JC.out ?_
          rotate_left
          · (intro w5 hSw; have k0 := (HCL.out _ hSw 0).trans y0; have k1 := (HCL.out _ hSw 1).trans y1; have k2 := (HCL.out _ hSw 2).trans y2; have k3 := (HCL.out _ hSw 3).trans y3; have k4 := (HCL.out _ hSw 4).trans y4; have k5 := (HCL.out _ hSw 5).trans y5; have k6 := (HCL.out _ hSw 6).trans y6; have k7 := (HCL.out _ hSw 7).trans y7; go_simp; try (with_reducible rfl))
          try simp only [Act.put, List.setIfInBounds_toArray, List.set_cons_zero, List.set_cons_succ]
          refine take_ (i := 1) (v := ?_) rfl (by kernel_rfl) (by kernel_rfl) (by kernel_rfl) (fun _ _ _ h => h) (Or.inl ⟨by rfl, ?_⟩) JC.out ?_
          rotate_left
          · (intro w5 hSw; have k0 := (HCL.out _ hSw 0).trans y0; have k1 := (HCL.out _ hSw 1).trans y1; have k2 := (HCL.out _ hSw 2).trans y2; have k3 := (HCL.out _ hSw 3).trans y3; have k4 := (HCL.out _ hSw 4).trans y4; have k5 := (HCL.out _ hSw 5).trans y5; have k6 := (HCL.out _ hSw 6).trans y6; have k7 := (HCL.out _ hSw 7).trans y7; go_simp; try (with_reducible rfl))
          try simp only [Act.put, List.setIfInBounds_toArray, List.set_cons_zero, List.set_cons_succ]
          clear y0 y1 y2 y3 y4 y5 y6 y7 kH hP hB sN HCL JC
          refine wpAnyH_ready (rs := [2, 7]) (by kernel_rfl) (by simp) ?_
          refine cons_ rfl (fun K hK => ?_) (cons_ rfl (fun K hK => ?_) nil_)
          · go_simp
            (go_at_call 16; (with_reducible refine (bytes_at l2 N2 HN2.out L2 HL2.out A2 c2 _ ?hr).mono ?_); (case hr => exact R2.out.below (be_call HB1.out hNs HBN.out)); rintro e W2 ⟨o9, cap9, rfl, hR9, hb9⟩)
            have HR9 := hide hR9
            have HB1 := hide (show Below N.heap.size N W2 from be_call hb9 HB1.out.size HB1.out)
            go_wp2_with fail
            refine hK.out _ _ HB1.out (fun _ => ?_)
            try simp only [Act.put, List.setIfInBounds_toArray, List.set_cons_zero, List.set_cons_succ]
            clear hK hb9 hR9
            refine wpAnyH_ready (rs := [3, 7]) (by kernel_rfl) (by simp) ?_
            refine cons_ rfl (fun K hK => ?_) (cons_ rfl (fun K hK => ?_) nil_)
            · go_simp
              (go_at_call 11; (with_reducible refine (feed_clean_at (bytesP l2) (bytesP_ok l2) (by have := bytesP_len l2; omega) N2 HN2.out v y HV.out ky HKY.out.1 A4 c4 _ _ _ (HPN.out.below HB1.out) HR9.out).mono ?_); rintro e W3 ⟨A5, c5, lb5, cap5, o5, ds5, rfl, hc5, hp5, ho5, ha5, hb9⟩)
              have HF5 := hide (And.intro ho5 (And.intro (PF.of hp5) ha5.ar))
              have HB1 := hide (show Below N.heap.size N W3 from be_call hb9 HB1.out.size HB1.out)
              go_wp2_with fail
              refine hK.out _ _ HB1.out (fun _ => ?_)
              try simp only [Act.put, List.setIfInBounds_toArray, List.set_cons_zero, List.set_cons_succ]
              clear hK hb9 hc5 hp5 ho5 ha5
              have JC := hide HB1.out
              refine take_ (i := 4) (v := ?_) rfl (by kernel_rfl) (by kernel_rfl) (by kernel_rfl) (fun _ _ _ h => h) (Or.inl ⟨by rfl, ?_⟩) JC.out ?_
              rotate_left
              · (intro w5 hSw; skip; go_simp; try (with_reducible rfl))
              try simp only [Act.put, List.setIfInBounds_toArray, List.set_cons_zero, List.set_cons_succ]
              refine take_ (i := 5) (v := ?_) rfl (by kernel_rfl) (by kernel_rfl) (by kernel_rfl) (fun _ _ _ h => h) (Or.inl ⟨by rfl, ?_⟩) JC.out ?_
              rotate_left
              · (intro w5 hSw; skip; go_simp; try (with_reducible rfl))
              try simp only [Act.put, List.setIfInBounds_toArray, List.set_cons_zero, List.set_cons_succ]
              refine take_ (i := 6) (v := ?_) rfl (by kernel_rfl) (by kernel_rfl) (by kernel_rfl) (fun _ _ _ h => h) (Or.inl ⟨by rfl, ?_⟩) JC.out ?_
              rotate_left
              · (intro w5 hSw; skip; go_simp; try (with_reducible rfl))
              try simp only [Act.put, List.setIfInBounds_toArray, List.set_cons_zero, List.set_cons_succ]
              clear JC
              refine wpAnyH_ready (rs := [7]) (by kernel_rfl) (by simp) ?_
              refine cons_ rfl (fun K hK => ?_) nil_
              · obtain ⟨G3, hG3⟩ : ∃ G, G = W3.heap.size := ⟨_, rfl⟩
                go_simp
                refine hK.out _ _ (be_alloc HB1.out HB1.out.size) (fun _ => ?_)
                try simp only [Act.put, List.setIfInBounds_toArray, List.set_cons_zero, List.set_cons_succ]
                rw [← hG3]
                refine letter_ (fun W => (W.heap[G3]? = some (.cells esZ 33 (0, 0)) ∧ N.heap.size ≤ G3) ∧ Below N.heap.size N W ∧ Below W3.heap.size W3 W ∧ W3.heap.size ≤ G3) ⟨⟨by rw [hG3]; exact bs_new rfl, by rw [hG3]; exact HB1.out.size⟩, be_alloc HB1.out HB1.out.size, (be_alloc (be_refl _) (Nat.le_refl _)), by rw [hG3]; exact Nat.le_refl _⟩ ?_
                clear hK hG3
                rintro W7 ⟨hg3, hb3, h37, h38⟩
                have HG3 := hide hg3
                have HB1 := hide hb3
                have H37 := hide (And.intro h37 h38)
                clear hg3 hb3 h37 h38
                refine wpAnyH_ready (rs := [8]) (by kernel_rfl) (by simp) ?_
                refine cons_ rfl (fun K hK => ?_) nil_
                · have hg := HG3.out.1
                  have hge := HG3.out.2
                  unfold esZ at hg
                  obtain ⟨z0, z1, z2, z3, z4, z5, z6, z7, fz⟩ := cells8 hg
                  go_simp
                  refine hK.out _ _ (st8_below hge HB1.out _ _ _ _ _ _ _ _) (fun _ => ?_)
                  try simp only [Act.put, List.setIfInBounds_toArray, List.set_cons_zero, List.set_cons_succ]
                  refine letter_ (fun W => (W.heap[G3]? = some (.cells (esC v A5 c5) 33 (0, 0)) ∧ N.heap.size ≤ G3) ∧ Below N.heap.size N W ∧ (sl lb5 ky cap5 = .slice o5 ky cap5 ∧ PF W A5 v.ps ∧ AR W lb5 y ds5)) ⟨⟨st8_cells HG3.out.1 _ _ _ _ _ _ _ _, hge⟩, st8_below hge HB1.out _ _ _ _ _ _ _ _, HF5.out.1, HF5.out.2.1.below (st8_below H37.out.2 H37.out.1 _ _ _ _ _ _ _ _), HF5.out.2.2.below (st8_below H37.out.2 H37.out.1 _ _ _ _ _ _ _ _)⟩ ?_
                  clear hK hg hge z0 z1 z2 z3 z4 z5 z6 z7 fz HG3 HB1 HF5
                  rintro W8 ⟨hg3, hb3, hf5⟩
                  have HG3 := hide hg3
                  have HB1 := hide hb3
                  have HF5 := hide hf5
                  clear hg3 hb3 hf5
                  have JC := hide HB1.out
                  refine take_ (i := 9) (v := ?_) rfl (by kernel_rfl) (by kernel_rfl) (by kernel_rfl) (fun _ _ _ h => h) (Or.inl ⟨by rfl, ?_⟩) JC.out ?_
                  rotate_left
                  · (intro w5 hSw; skip; go_simp; try (with_reducible rfl))
                  try simp only [Act.put, List.setIfInBounds_toArray, List.set_cons_zero, List.set_cons_succ]
                  refine wpAnyH_done (by kernel_rfl) ?_ _
                  go_wp2
                  go_meet
                  exact ⟨G3, A5, c5, lb5, cap5, o5, ds5, rfl, rfl, HF5.out.1, HG3.out.1, HF5.out.2.1, HF5.out.2.2, be_call HB1.out hNs HBN.out⟩
            · obtain ⟨G3, hG3⟩ : ∃ G, G = W2.heap.size := ⟨_, rfl⟩
              go_simp
              refine hK.out _ _ (be_alloc HB1.out HB1.out.size) (fun _ => ?_)
              try simp only [Act.put, List.setIfInBounds_toArray, List.set_cons_zero, List.set_cons_succ]
              rw [← hG3]
              refine letter_ (fun W => (W.heap[G3]? = some (.cells esZ 33 (0, 0)) ∧ N.heap.size ≤ G3) ∧ Below N.heap.size N W ∧ Rd W 0 o9 ((bytesP l2).map (.int .u8))) ⟨⟨by rw [hG3]; exact bs_new rfl, by rw [hG3]; exact HB1.out.size⟩, be_alloc HB1.out HB1.out.size, HR9.out.below (be_alloc (be_refl _) (Nat.le_refl _))⟩ ?_
              clear hK hG3
              rintro W7 ⟨hg3, hb3, hr9⟩
              have HG3 := hide hg3
              have HB1 := hide hb3
              have HR9 := hide hr9
              clear hg3 hb3 hr9
              refine wpAnyH_ready (rs := [3]) (by kernel_rfl) (by simp) ?_
              refine cons_ rfl (fun K hK => ?_) nil_
              · go_simp
                (go_at_call 11; (with_reducible refine (feed_clean_at (bytesP l2) (bytesP_ok l2) (by have := bytesP_len l2; omega) N2 HN2.out v y HV.out ky HKY.out.1 A4 c4 _ _ _ (HPN.out.below HB1.out) HR9.out).mono ?_); rintro e W3 ⟨A5, c5, lb5, cap5, o5, ds5, rfl, hc5, hp5, ho5, ha5, hb9⟩)
                have HF5 := hide (And.intro ho5 (And.intro hp5 ha5))
                have HGB := hide (bs_lt HG3.out.1)
                have HG3 := hide (show W3.heap[G3]? = some (.cells esZ 33 (0, 0)) ∧ N.heap.size ≤ G3 from ⟨bs_below hb9 (bs_lt HG3.out.1) HG3.out.1, HG3.out.2⟩)
                have HB1 := hide (show Below N.heap.size N W3 from be_call hb9 HB1.out.size HB1.out)
                go_wp2_with fail
                refine hK.out _ _ HB1.out (fun _ => ?_)
                try simp only [Act.put, List.setIfInBounds_toArray, List.set_cons_zero, List.set_cons_succ]
                clear hK hb9 hc5 hp5 ho5 ha5
                have JC := hide HB1.out
                refine take_ (i := 4) (v := ?_) rfl (by kernel_rfl) (by kernel_rfl) (by kernel_rfl) (fun _ _ _ h => h) (Or.inl ⟨by rfl, ?_⟩) JC.out ?_
                rotate_left
                · (intro w5 hSw; skip; go_simp; try (with_reducible rfl))
                try simp only [Act.put, List.setIfInBounds_toArray, List.set_cons_zero, List.set_cons_succ]
                refine take_ (i := 5) (v := ?_) rfl (by kernel_rfl) (by kernel_rfl) (by kernel_rfl) (fun _ _ _ h => h) (Or.inl ⟨by rfl, ?_⟩) JC.out ?_
                rotate_left
                · (intro w5 hSw; skip; go_simp; try (with_reducible rfl))
                try simp only [Act.put, List.setIfInBounds_toArray, List.set_cons_zero, List.set_cons_succ]
                refine take_ (i := 6) (v := ?_) rfl (by kernel_rfl) (by kernel_rfl) (by kernel_rfl) (fun _ _ _ h => h) (Or.inl ⟨by rfl, ?_⟩) JC.out ?_
                rotate_left
                · (intro w5 hSw; skip; go_simp; try (with_reducible rfl))
                try simp only [Act.put, List.setIfInBounds_toArray, List.set_cons_zero, List.set_cons_succ]
                clear JC
                refine wpAnyH_ready (rs := [8]) (by kernel_rfl) (by simp) ?_
                refine cons_ rfl (fun K hK => ?_) nil_
                · have hg := HG3.out.1
                  have hge := HG3.out.2
                  unfold esZ at hg
                  obtain ⟨z0, z1, z2, z3, z4, z5, z6, z7, fz⟩ := cells8 hg
                  go_simp
                  refine hK.out _ _ (st8_below hge HB1.out _ _ _ _ _ _ _ _) (fun _ => ?_)
                  try simp only [Act.put, List.setIfInBounds_toArray, List.set_cons_zero, List.set_cons_succ]
                  refine letter_ (fun W => (W.heap[G3]? = some (.cells (esC v A5 c5) 33 (0, 0)) ∧ N.heap.size ≤ G3) ∧ Below N.heap.size N W ∧ (sl lb5 ky cap5 = .slice o5 ky cap5 ∧ PF W A5 v.ps ∧ AR W lb5 y ds5)) ⟨⟨st8_cells HG3.out.1 _ _ _ _ _ _ _ _, hge⟩, st8_below hge HB1.out _ _ _ _ _ _ _ _, HF5.out.1, PF.of (st8_F HGB.out HF5.out.2.1 _ _ _ _ _ _ _ _), (st8_acts HGB.out HF5.out.2.2 _ _ _ _ _ _ _ _).ar⟩ ?_
                  clear hK hg hge z0 z1 z2 z3 z4 z5 z6 z7 fz HG3 HB1 HF5
                  rintro W8 ⟨hg3, hb3, hf5⟩
                  have HG3 := hide hg3
                  have HB1 := hide hb3
                  have HF5 := hide hf5
                  clear hg3 hb3 hf5
                  have JC := hide HB1.out
                  refine take_ (i := 9) (v := ?_) rfl (by kernel_rfl) (by kernel_rfl) (by kernel_rfl) (fun _ _ _ h => h) (Or.inl ⟨by rfl, ?_⟩) JC.out ?_
                  rotate_left
                  · (intro w5 hSw; skip; go_simp; try (with_reducible rfl))
                  try simp only [Act.put, List.setIfInBounds_toArray, List.set_cons_zero, List.set_cons_succ]
                  refine wpAnyH_done (by kernel_rfl) ?_ _
                  go_wp2
                  go_meet
                  exact ⟨G3, A5, c5, lb5, cap5, o5, ds5, rfl, rfl, HF5.out.1, HG3.out.1, HF5.out.2.1, HF5.out.2.2, be_call HB1.out hNs HBN.out⟩
          · obtain ⟨G3, hG3⟩ : ∃ G, G = W0.heap.size := ⟨_, rfl⟩
            go_simp
            refine hK.out _ _ (be_alloc HB1.out HB1.out.size) (fun _ => ?_)
            try simp only [Act.put, List.setIfInBounds_toArray, List.set_cons_zero, List.set_cons_succ]
            rw [← hG3]
            refine letter_ (fun W => (W.heap[G3]? = some (.cells esZ 33 (0, 0)) ∧ N.heap.size ≤ G3) ∧ Below N.heap.size N W) ⟨⟨by rw [hG3]; exact bs_new rfl, by rw [hG3]; exact HB1.out.size⟩, be_alloc HB1.out HB1.out.size⟩ ?_
            clear hK hG3
            rintro W7 ⟨hg3, hb3⟩
            have HG3 := hide hg3
            have HB1 := hide hb3
            clear hg3 hb3
            refine wpAnyH_ready (rs := [2]) (by kernel_rfl) (by simp) ?_
            refine cons_ rfl (fun K hK => ?_) nil_
            · go_simp
              (go_at_call 16; (with_reducible refine (bytes_at l2 N2 HN2.out L2 HL2.out A2 c2 _ ?hr).mono ?_); (case hr => exact R2.out.below (be_call HB1.out hNs HBN.out)); rintro e W2 ⟨o9, cap9, rfl, hR9, hb9⟩)
              have HR9 := hide hR9
              have HG3 := hide (show W2.heap[G3]? = some (.cells esZ 33 (0, 0)) ∧ N.heap.size ≤ G3 from ⟨bs_below hb9 (bs_lt HG3.out.1) HG3.out.1, HG3.out.2⟩)
              have HB1 := hide (show Below N.heap.size N W2 from be_call hb9 HB1.out.size HB1.out)
              go_wp2_with fail
              refine hK.out _ _ HB1.out (fun _ => ?_)
              try simp only [Act.put, List.setIfInBounds_toArray, List.set_cons_zero, List.set_cons_succ]
              clear hK hb9 hR9
              refine wpAnyH_ready (rs := [3]) (by kernel_rfl) (by simp) ?_
              refine cons_ rfl (fun K hK => ?_) nil_
              · go_simp
                (go_at_call 11; (with_reducible refine (feed_clean_at (bytesP l2) (bytesP_ok l2) (by have := bytesP_len l2; omega) N2 HN2.out v y HV.out ky HKY.out.1 A4 c4 _ _ _ (HPN.out.below HB1.out) HR9.out).mono ?_); rintro e W3 ⟨A5, c5, lb5, cap5, o5, ds5, rfl, hc5, hp5, ho5, ha5, hb9⟩)
                have HF5 := hide (And.intro ho5 (And.intro hp5 ha5))
                have HGB := hide (bs_lt HG3.out.1)
                have HG3 := hide (show W3.heap[G3]? = some (.cells esZ 33 (0, 0)) ∧ N.heap.size ≤ G3 from ⟨bs_below hb9 (bs_lt HG3.out.1) HG3.out.1, HG3.out.2⟩)
                have HB1 := hide (show Below N.heap.size N W3 from be_call hb9 HB1.out.size HB1.out)
                go_wp2_with fail
                refine hK.out _ _ HB1.out (fun _ => ?_)
                try simp only [Act.put, List.setIfInBounds_toArray, List.set_cons_zero, List.set_cons_succ]
                clear hK hb9 hc5 hp5 ho5 ha5
                have JC := hide HB1.out
                refine take_ (i := 4) (v := ?_) rfl (by kernel_rfl) (by kernel_rfl) (by kernel_rfl) (fun _ _ _ h => h) (Or.inl ⟨by rfl, ?_⟩) JC.out ?_
                rotate_left
                · (intro w5 hSw; skip; go_simp; try (with_reducible rfl))
                try simp only [Act.put, List.setIfInBounds_toArray, List.set_cons_zero, List.set_cons_succ]
                refine take_ (i := 5) (v := ?_) rfl (by kernel_rfl) (by kernel_rfl) (by kernel_rfl) (fun _ _ _ h => h) (Or.inl ⟨by rfl, ?_⟩) JC.out ?_
                rotate_left
                · (intro w5 hSw; skip; go_simp; try (with_reducible rfl))
                try simp only [Act.put, List.setIfInBounds_toArray, List.set_cons_zero, List.set_cons_succ]
                refine take_ (i := 6) (v := ?_) rfl (by kernel_rfl) (by kernel_rfl) (by kernel_rfl) (fun _ _ _ h => h) (Or.inl ⟨by rfl, ?_⟩) JC.out ?_
                rotate_left
                · (intro w5 hSw; skip; go_simp; try (with_reducible rfl))
                try simp only [Act.put, List.setIfInBounds_toArray, List.set_cons_zero, List.set_cons_succ]
                clear JC
                refine wpAnyH_ready (rs := [8]) (by kernel_rfl) (by simp) ?_
                refine cons_ rfl (fun K hK => ?_) nil_
                · have hg := HG3.out.1
                  have hge := HG3.out.2
                  unfold esZ at hg
                  obtain ⟨z0, z1, z2, z3, z4, z5, z6, z7, fz⟩ := cells8 hg
                  go_simp
                  refine hK.out _ _ (st8_below hge HB1.out _ _ _ _ _ _ _ _) (fun _ => ?_)
                  try simp only [Act.put, List.setIfInBounds_toArray, List.set_cons_zero, List.set_cons_succ]
                  refine letter_ (fun W => (W.heap[G3]? = some (.cells (esC v A5 c5) 33 (0, 0)) ∧ N.heap.size ≤ G3) ∧ Below N.heap.size N W ∧ (sl lb5 ky cap5 = .slice o5 ky cap5 ∧ PF W A5 v.ps ∧ AR W lb5 y ds5)) ⟨⟨st8_cells HG3.out.1 _ _ _ _ _ _ _ _, hge⟩, st8_below hge HB1.out _ _ _ _ _ _ _ _, HF5.out.1, PF.of (st8_F HGB.out HF5.out.2.1 _ _ _ _ _ _ _ _), (st8_acts HGB.out HF5.out.2.2 _ _ _ _ _ _ _ _).ar⟩ ?_
                  clear hK hg hge z0 z1 z2 z3 z4 z5 z6 z7 fz HG3 HB1 HF5
                  rintro W8 ⟨hg3, hb3, hf5⟩
                  have HG3 := hide hg3
                  have HB1 := hide hb3
                  have HF5 := hide hf5
                  clear hg3 hb3 hf5
                  have JC := hide HB1.out
                  refine take_ (i := 9) (v := ?_) rfl (by kernel_rfl) (by kernel_rfl) (by kernel_rfl) (fun _ _ _ h => h) (Or.inl ⟨by rfl, ?_⟩) JC.out ?_
                  rotate_left
                  · (intro w5 hSw; skip; go_simp; try (with_reducible rfl))
                  try simp only [Act.put, List.setIfInBounds_toArray, List.set_cons_zero, List.set_cons_succ]
                  refine wpAnyH_done (by kernel_rfl) ?_ _
                  go_wp2
                  go_meet
                  exact ⟨G3, A5, c5, lb5, cap5, o5, ds5, rfl, rfl, HF5.out.1, HG3.out.1, HF5.out.2.1, HF5.out.2.2, be_call HB1.out hNs HBN.out⟩
        case rest =>
          obtain ⟨G3, A5, c5, lb5, cap5, o5, ds5, rfl, rfl, ho5, kG, hP5, ha5, hB⟩ := hcut
          have HP5 := hide hP5
          have HA5 := hide ha5
          have HO5 := hide ho5
          have sG := bs_lt kG
          have hcs := hB.size
          clear hP5 ha5 ho5
          go_upto_region 12 with (first
            | (go_at_call 16; (with_reducible refine (bytes_at l2 N2 HN2.out L2 HL2.out A2 c2 _ ?hr).mono ?_); (case hr => exact R2.out.below (by (repeat (first | (with_reducible assumption) | with_reducible exact be_refl _ | (with_reducible refine be_set ?_ (by dsimp only; omega)) | (with_reducible apply be_drew) | (with_reducible apply be_drewN) | (with_reducible refine be_alloc ?_ (by first | omega | (simp; omega) | simp)) | (with_reducible refine be_call (by with_reducible assumption) (by first | omega | (simp; omega) | simp) ?_))))); rintro e w9 ⟨o9, cap9, rfl, hR9, hb9⟩; have HR9 := hide hR9; have hz9 := hb9.size; (try simp at hz9); obtain ⟨hc9, hf9⟩ := be_cells hb9; have q1 : G3 < w9.heap.size := (by omega); clear hR9)
            | (go_at_call 11; (with_reducible refine (feed_zero_at (bytesP l2) (bytesP_ok l2) (by have := bytesP_len l2; omega) N2 HN2.out v y HV.out ky HKY.out.1 _ _ _ HR9.out).mono ?_); rintro e w8 ⟨A6, c6, lb6, cap6, o6, ds6, rfl, hc6, hp6, ho6, ha6, hb8⟩; have HP6 := hide (PF.of hp6); have HO6 := hide ho6; have HA6 := hide ha6.ar; have hz8 := hb8.size; (try simp at hz8); obtain ⟨hc8, hf8⟩ := be_cells hb8; have q2 : G3 < w8.heap.size := (by omega); clear hc6 hp6 ho6 ha6))
          refine wp_letter (fun W => (W.heap[G3]? = some (.cells (esC v A5 c5) 33 (0, 0)) ∧ W.heap[w8.heap.size]? = some (.cells (esC v A6 c6) 33 (0, 0))) ∧ (PF W A5 v.ps ∧ PF W A6 v.ps ∧ AR W lb5 y ds5 ∧ AR W lb6 y ds6) ∧ Below w.heap.size w W) ⟨⟨?_, ?_⟩, ⟨?_, ?_, ?_, ?_⟩, ?_⟩ ?_
          · (repeat (first | (with_reducible assumption) | (with_reducible apply bs_same) | (with_reducible apply bs_far; case hp => (dsimp only; omega)) | (with_reducible apply bs_drew) | (with_reducible apply bs_drewN) | (with_reducible apply bs_new; (first | (with_reducible rfl) | (simp; done))) | (with_reducible apply bs_alloc) | (with_reducible apply bs_below; (case hb => with_reducible assumption); (case hB => first | omega | (simp; omega) | (simp; done)))))
          · unfold esC; (apply bs_eq; (case h => (repeat (first | (with_reducible assumption) | (with_reducible apply bs_same) | (with_reducible apply bs_far; case hp => (dsimp only; omega)) | (with_reducible apply bs_drew) | (with_reducible apply bs_drewN) | (with_reducible apply bs_new; (first | (with_reducible rfl) | (simp; done))) | (with_reducible apply bs_alloc) | (with_reducible apply bs_below; (case hb => with_reducible assumption); (case hB => first | omega | (simp; omega) | (simp; done)))))); (case e => rfl))
          · exact HP5.out.below (by (repeat (first | (with_reducible assumption) | with_reducible exact be_refl _ | (with_reducible refine be_set ?_ (by dsimp only; omega)) | (with_reducible apply be_drew) | (with_reducible apply be_drewN) | (with_reducible refine be_alloc ?_ (by first | omega | (simp; omega) | simp)) | (with_reducible refine be_call (by with_reducible assumption) (by first | omega | (simp; omega) | simp) ?_))))
          · exact HP6.out.below (by (repeat (first | (with_reducible assumption) | with_reducible exact be_refl _ | (with_reducible refine be_set ?_ (by dsimp only; omega)) | (with_reducible apply be_drew) | (with_reducible apply be_drewN) | (with_reducible refine be_alloc ?_ (by first | omega | (simp; omega) | simp)) | (with_reducible refine be_call (by with_reducible assumption) (by first | omega | (simp; omega) | simp) ?_))))
          · exact HA5.out.below (by (repeat (first | (with_reducible assumption) | with_reducible exact be_refl _ | (with_reducible refine be_set ?_ (by dsimp only; omega)) | (with_reducible apply be_drew) | (with_reducible apply be_drewN) | (with_reducible refine be_alloc ?_ (by first | omega | (simp; omega) | simp)) | (with_reducible refine be_call (by with_reducible assumption) (by first | omega | (simp; omega) | simp) ?_))))
          · exact HA6.out.below (by (repeat (first | (with_reducible assumption) | with_reducible exact be_refl _ | (with_reducible refine be_set ?_ (by dsimp only; omega)) | (with_reducible apply be_drew) | (with_reducible apply be_drewN) | (with_reducible refine be_alloc ?_ (by first | omega | (simp; omega) | simp)) | (with_reducible refine be_call (by with_reducible assumption) (by first | omega | (simp; omega) | simp) ?_))))
          · (repeat (first | (with_reducible assumption) | with_reducible exact be_refl _ | (with_reducible refine be_set ?_ (by dsimp only; omega)) | (with_reducible apply be_drew) | (with_reducible apply be_drewN) | (with_reducible refine be_alloc ?_ (by first | omega | (simp; omega) | simp)) | (with_reducible refine be_call (by with_reducible assumption) (by first | omega | (simp; omega) | simp) ?_)))
          obtain ⟨G4, hG4⟩ : ∃ G, G = w8.heap.size := ⟨_, rfl⟩
          rw [← hG4]
          have hG34 : G3 ≠ G4 := by omega
          clear hG4 HP5 HP6 HA5 HA6 hb9 hb8 hz9 hz8 hc9 hf9 hc8 hf8 kG sG hB hcs q1 q2 HR9
          rintro N3 ⟨⟨kG, kH⟩, ⟨hp5, hp6, ha5, ha6⟩, hB⟩
          have sG := bs_lt kG
          have sH := bs_lt kH
          have hNs3 := hB.size
          unfold esC at kG kH
          obtain ⟨x0, x1, x2, x3, x4, x5, x6, x7, _⟩ := cells8 kG
          obtain ⟨y0, y1, y2, y3, y4, y5, y6, y7, _⟩ := cells8 kH
          have HP5 := hide hp5
          have HP6 := hide hp6
          have HA5 := hide ha5
          have HA6 := hide ha6
          clear hp5 hp6 ha5 ha6
          go_wp2_with (first
            | (go_at_call 15; (with_reducible refine (sameEsc_at v (by have := HI2.out.wf.l0; omega) A5 A6 c5 c6 _ ?r1 ?r2).mono ?_); (case r1 => exact HP5.out.below (by (repeat (first | (with_reducible assumption) | with_reducible exact be_refl _ | (with_reducible refine be_set ?_ (by dsimp only; omega)) | (with_reducible apply be_drew) | (with_reducible apply be_drewN) | (with_reducible refine be_alloc ?_ (by first | omega | (simp; omega) | simp)) | (with_reducible refine be_call (by with_reducible assumption) (by first | omega | (simp; omega) | simp) ?_))))); (case r2 => exact HP6.out.below (by (repeat (first | (with_reducible assumption) | with_reducible exact be_refl _ | (with_reducible refine be_set ?_ (by dsimp only; omega)) | (with_reducible apply be_drew) | (with_reducible apply be_drewN) | (with_reducible refine be_alloc ?_ (by first | omega | (simp; omega) | simp)) | (with_reducible refine be_call (by with_reducible assumption) (by first | omega | (simp; omega) | simp) ?_))))); rintro e w7 ⟨rfl, hb7⟩; have hz7 := hb7.size; (try simp at hz7))
            | (go_at_call 12; (with_reducible refine (sameActs_at y ky HKY.out.1 HKY.out.2 (fun a h => Nat.le_trans (HPAR.out a h) (by decide)) lb5 lb6 o5 o6 cap5 cap6 HO5.out HO6.out ds5 ds6 _ ?r1 ?r2).mono ?_); (case r1 => exact HA5.out.below (by (repeat (first | (with_reducible assumption) | with_reducible exact be_refl _ | (with_reducible refine be_set ?_ (by dsimp only; omega)) | (with_reducible apply be_drew) | (with_reducible apply be_drewN) | (with_reducible refine be_alloc ?_ (by first | omega | (simp; omega) | simp)) | (with_reducible refine be_call (by with_reducible assumption) (by first | omega | (simp; omega) | simp) ?_))))); (case r2 => exact HA6.out.below (by (repeat (first | (with_reducible assumption) | with_reducible exact be_refl _ | (with_reducible refine be_set ?_ (by dsimp only; omega)) | (with_reducible apply be_drew) | (with_reducible apply be_drewN) | (with_reducible refine be_alloc ?_ (by first | omega | (simp; omega) | simp)) | (with_reducible refine be_call (by with_reducible assumption) (by first | omega | (simp; omega) | simp) ?_))))); rintro e w6 ⟨rfl, hb6⟩; have hz6 := hb6.size; (try simp at hz6))
            | (go_at_call 13; (with_reducible refine (awake_val _).mono ?_); rintro e w5 ⟨rfl, hb5⟩; have hz5 := hb5.size; (try simp at hz5)))
          go_ret
          exact ⟨rfl, by (repeat (first | (with_reducible assumption) | with_reducible exact be_refl _ | (with_reducible refine be_set ?_ (by dsimp only; omega)) | (with_reducible apply be_drew) | (with_reducible apply be_drewN) | (with_reducible refine be_alloc ?_ (by first | omega | (simp; omega) | simp)) | (with_reducible refine be_call (by with_reducible assumption) (by first | omega | (simp; omega) | simp) ?_)))⟩
  | true =>
    go_enter Try.func6, Try.ntmps6
    go_upto_region 5 with (first
      | (go_at_call 16; (with_reducible refine (bytes_at l1 N1 HN1.out L1 HL1.out A1 c1 _ ?hr).mono ?_); (case hr => exact R1.out.below (by (repeat (first | (with_reducible assumption) | with_reducible exact be_refl _ | (with_reducible refine be_set ?_ (by dsimp only; omega)) | (with_reducible apply be_drew) | (with_reducible apply be_drewN) | (with_reducible refine be_alloc ?_ (by first | omega | (simp; omega) | simp)) | (with_reducible refine be_call (by with_reducible assumption) (by first | omega | (simp; omega) | simp) ?_))))); rintro e w9 ⟨o9, cap9, rfl, hR9, hb9⟩; have HR9 := hide hR9; have hz9 := hb9.size; (try simp at hz9); clear hR9)
      | (go_at_call 11; (with_reducible refine (feed_zero_at (bytesP l1) (bytesP_ok l1) (by have := bytesP_len l1; omega) N1 HN1.out s l HS.out k1 HK1.out _ _ _ HR9.out).mono ?_); rintro e w8 ⟨A3, c3, lb3, cap3, o3, ds3, rfl, hc3, hp3, ho3, ha3, hb8⟩; have HP3 := hide (And.intro hc3 (PF.of hp3)); have hz8 := hb8.size; (try simp at hz8); clear hc3 hp3 ho3 ha3))
    refine wp_letter (fun W => W.heap[w8.heap.size]? = some (.cells (esC s A3 c3) 33 (0, 0)) ∧ PF W A3 s.ps ∧ Below w.heap.size w W) ⟨?_, ?_, ?_⟩ ?_
    · unfold esC; (apply bs_eq; (case h => (repeat (first | (with_reducible assumption) | (with_reducible apply bs_same) | (with_reducible apply bs_far; case hp => (dsimp only; omega)) | (with_reducible apply bs_drew) | (with_reducible apply bs_drewN) | (with_reducible apply bs_new; (first | (with_reducible rfl) | (simp; done))) | (with_reducible apply bs_alloc) | (with_reducible apply bs_below; (case hb => with_reducible assumption); (case hB => first | omega | (simp; omega) | (simp; done)))))); (case e => rfl))
    · exact HP3.out.2.below (by (repeat (first | (with_reducible assumption) | with_reducible exact be_refl _ | (with_reducible refine be_set ?_ (by dsimp only; omega)) | (with_reducible apply be_drew) | (with_reducible apply be_drewN) | (with_reducible refine be_alloc ?_ (by first | omega | (simp; omega) | simp)) | (with_reducible refine be_call (by with_reducible assumption) (by first | omega | (simp; omega) | simp) ?_))))
    · (repeat (first | (with_reducible assumption) | with_reducible exact be_refl _ | (with_reducible refine be_set ?_ (by dsimp only; omega)) | (with_reducible apply be_drew) | (with_reducible apply be_drewN) | (with_reducible refine be_alloc ?_ (by first | omega | (simp; omega) | simp)) | (with_reducible refine be_call (by with_reducible assumption) (by first | omega | (simp; omega) | simp) ?_)))
    obtain ⟨G1, hG1⟩ : ∃ G, G = w8.heap.size := ⟨_, rfl⟩
    rw [← hG1]
    have HC3 := hide HP3.out.1
    clear hG1 HP3 HR9 hb9 hb8 hz9 hz8 HK1
    rintro M ⟨kG, hP, hB⟩
    have HP := hide hP
    have HB := hide hB
    have sG := bs_lt kG
    have kG2 := kG
    have hMs := hB.size
    unfold esC at kG2
    obtain ⟨x0, x1, x2, x3, x4, x5, x6, x7, _⟩ := cells8 kG2
    have hcan := cancel_plain HI.out (b := 26) (by omega)
    obtain ⟨⟨t, x⟩, htx⟩ : ∃ u, stepP s 26 = u := ⟨_, rfl⟩
    rw [htx] at hcan
    dsimp only at hcan
    have HT := hide ((feed_one s 26).trans htx)
    have HCAN := hide hcan
    obtain ⟨k2, hk2⟩ : ∃ n, x.length = n := ⟨_, rfl⟩
    have HK2 := hide hk2
    clear hP kG2 htx hcan hk2
    go_upto_region 6 with (go_at_call 11; (with_reducible refine (feed_next_at s HI.out.wf [26] (by intro z hz; simp at hz; omega) (by simp) 1 rfl t x HT.out k2 HK2.out A3 c3 _ _ _ HC3.out ?hp ?hr).mono ?_); (case hp => exact HP.out.below (by (repeat (first | (with_reducible assumption) | with_reducible exact be_refl _ | (with_reducible refine be_set ?_ (by dsimp only; omega)) | (with_reducible apply be_drew) | (with_reducible apply be_drewN) | (with_reducible refine be_alloc ?_ (by first | omega | (simp; omega) | simp)) | (with_reducible refine be_call (by with_reducible assumption) (by first | omega | (simp; omega) | simp) ?_))))); (case hr => exact rd_block (bs_new rfl) rfl); rintro e w8 ⟨A4, c4, lb4, cap4, o4, ds4, rfl, hc4, hp4, ho4, ha4, hb8⟩; have HP4 := hide (PF.of hp4); have hz8 := hb8.size; (try simp at hz8); obtain ⟨hc8, hf8⟩ := be_cells hb8; have q1 := (fun o => hc8 G1 o (by simp; omega)); have q2 : G1 < w8.heap.size := (by omega); have q3 : G1 ≠ w8.heap.size := (by omega); clear hc4 hp4 ho4 ha4)
    by_cases hm : s.m = 5
    · have hc5 := HCAN.out.1 hm
      have hk0 : k2 = 0 := by rw [← HK2.out, hc5.2]; rfl
      subst hk0
      have hm3 := hc5.1
      have m5 : (s.m == 5) = true := by simp [hm]
      have m3 : (t.m == 3) = true := by simp [hm3]
      clear hc5 hm hm3
      go_wp2_with (go_at_call 13; (with_reducible refine (awake_val _).mono ?_); rintro e w7 ⟨rfl, hb7⟩)
      go_ret
      exact ⟨rfl, by have hz8' := hb8.size; simp at hz8'; (repeat (first | (with_reducible assumption) | with_reducible exact be_refl _ | (with_reducible refine be_set ?_ (by dsimp only; omega)) | (with_reducible apply be_drew) | (with_reducible apply be_drewN) | (with_reducible refine be_alloc ?_ (by first | omega | (simp; omega) | simp)) | (with_reducible refine be_call (by with_reducible assumption) (by first | omega | (simp; omega) | simp) ?_)))⟩
    · obtain ⟨ht0, hn0, hx1⟩ := HCAN.out.2 hm
      subst ht0
      rw [HK2.out] at hx1
      have HN0 := hide hn0
      clear hn0
      have m5 : (s.m == 5) = false := by simp [hm]
      clear hm
      refine wp_letter (fun W => W.heap[G1]? = some (.cells (esC s A3 c3) 33 (0, 0)) ∧ W.heap[w8.heap.size]? = some (.cells #[.int .i64 0, .int .i64 0, .int .i64 0, .int .i64 0, .slice A4 0 c4, .int .i64 0, .bool false, .bool false] 33 (0, 0)) ∧ PF W A4 [] ∧ Below w.heap.size w W) ⟨?_, ?_, ?_, ?_⟩ ?_
      · (repeat (first | (with_reducible assumption) | (with_reducible apply bs_same) | (with_reducible apply bs_far; case hp => (dsimp only; omega)) | (with_reducible apply bs_drew) | (with_reducible apply bs_drewN) | (with_reducible apply bs_new; (first | (with_reducible rfl) | (simp; done))) | (with_reducible apply bs_alloc) | (with_reducible apply bs_below; (case hb => with_reducible assumption); (case hB => first | omega | (simp; omega) | (simp; done)))))
      · (apply bs_eq; (case h => (repeat (first | (with_reducible assumption) | (with_reducible apply bs_same) | (with_reducible apply bs_far; case hp => (dsimp only; omega)) | (with_reducible apply bs_drew) | (with_reducible apply bs_drewN) | (with_reducible apply bs_new; (first | (with_reducible rfl) | (simp; done))) | (with_reducible apply bs_alloc) | (with_reducible apply bs_below; (case hb => with_reducible assumption); (case hB => first | omega | (simp; omega) | (simp; done)))))); (case e => rfl))
      · exact HP4.out.below (by (repeat (first | (with_reducible assumption) | with_reducible exact be_refl _ | (with_reducible refine be_set ?_ (by dsimp only; omega)) | (with_reducible apply be_drew) | (with_reducible apply be_drewN) | (with_reducible refine be_alloc ?_ (by first | omega | (simp; omega) | simp)) | (with_reducible refine be_call (by with_reducible assumption) (by first | omega | (simp; omega) | simp) ?_))))
      · have := HB.out; (repeat (first | (with_reducible assumption) | with_reducible exact be_refl _ | (with_reducible refine be_set ?_ (by dsimp only; omega)) | (with_reducible apply be_drew) | (with_reducible apply be_drewN) | (with_reducible refine be_alloc ?_ (by first | omega | (simp; omega) | simp)) | (with_reducible refine be_call (by with_reducible assumption) (by first | omega | (simp; omega) | simp) ?_)))
      obtain ⟨G2, hG2⟩ : ∃ G, G = w8.heap.size := ⟨_, rfl⟩
      rw [← hG2]
      have hG12 : G1 ≠ G2 := by rw [hG2]; (try simp at hz8); omega
      clear hG2 HP4 hb8 hz8 hc8 hf8 kG HP HB sG x0 x1 x2 x3 x4 x5 x6 x7 q1 hMs hB
      rintro N ⟨kG, kH, hP, hB⟩
      have HP := hide hP
      have HB := hide hB
      have sG := bs_lt kG
      have sH := bs_lt kH
      have hNs := hB.size
      unfold esC at kG
      obtain ⟨x0, x1, x2, x3, x4, x5, x6, x7, _⟩ := cells8 kG
      obtain ⟨y0, y1, y2, y3, y4, y5, y6, y7, _⟩ := cells8 kH
      have hcase : ((s.n1 == 0) = true ∧ k2 = 0) ∨ ((s.n1 == 0) = false ∧ ((1 : Int) < (k2 : Int)) = False) := by
        by_cases h : s.n1 = 0
        · exact .inl ⟨by simp [h], by rw [← HK2.out, HN0.out h]; rfl⟩
        · exact .inr ⟨by simp [h], eq_false (by omega)⟩
      have hk1 : (k2 : Int) ≤ 1 := by omega
      clear hP
      rcases hcase with ⟨p1, rfl⟩ | ⟨p1, p2⟩
      all_goals
        go_upto_region 10 with (go_at_call 15; (with_reducible refine (sameEsc_zero _ _ _ _ _).mono ?_); rintro e w7 ⟨rfl, hb7⟩; have hz7 := hb7.size; (try simp at hz7); obtain ⟨hc7, hf7⟩ := be_cells hb7)
        refine wp_letter (fun W => W.heap[G2]? = some (.cells #[.int .i64 0, .int .i64 0, .int .i64 0, .int .i64 0, .slice A4 0 c4, .int .i64 0, .bool false, .bool false] 33 (0, 0)) ∧ PF W A4 [] ∧ Below w.heap.size w W) ⟨?_, ?_, ?_⟩ ?_
        · (repeat (first | (with_reducible assumption) | (with_reducible apply bs_same) | (with_reducible apply bs_far; case hp => (dsimp only; omega)) | (with_reducible apply bs_drew) | (with_reducible apply bs_drewN) | (with_reducible apply bs_new; (first | (with_reducible rfl) | (simp; done))) | (with_reducible apply bs_alloc) | (with_reducible apply bs_below; (case hb => with_reducible assumption); (case hB => first | omega | (simp; omega) | (simp; done)))))
        · exact HP.out.below (by (repeat (first | (with_reducible assumption) | with_reducible exact be_refl _ | (with_reducible refine be_set ?_ (by dsimp only; omega)) | (with_reducible apply be_drew) | (with_reducible apply be_drewN) | (with_reducible refine be_alloc ?_ (by first | omega | (simp; omega) | simp)) | (with_reducible refine be_call (by with_reducible assumption) (by first | omega | (simp; omega) | simp) ?_))))
        · (repeat (first | (with_reducible assumption) | with_reducible exact be_refl _ | (with_reducible refine be_set ?_ (by dsimp only; omega)) | (with_reducible apply be_drew) | (with_reducible apply be_drewN) | (with_reducible refine be_alloc ?_ (by first | omega | (simp; omega) | simp)) | (with_reducible refine be_call (by with_reducible assumption) (by first | omega | (simp; omega) | simp) ?_)))
        clear kG kH HP HB sG sH hNs hB x0 x1 x2 x3 x4 x5 x6 x7 y0 y1 y2 y3 y4 y5 y6 y7 hb7 hz7 hc7 hf7
        rintro N ⟨kH, hP, hB⟩
        have hNs := hB.size
        go_cut [12, 13] (fun v12 v13 wx => ∃ (G3 : Nat) (A5 : Option Addr) (c5 : Nat) (lb5 : Option Nat) (cap5 : Nat) (o5 : Option Addr) (ds5 : List ActD), v12 = .pointer (some ⟨G3, 0, none⟩) ∧ v13 = .slice o5 ky cap5 ∧ sl lb5 ky cap5 = .slice o5 ky cap5 ∧ wx.heap[G3]? = some (.cells (esC v A5 c5) 33 (0, 0)) ∧ PF wx A5 v.ps ∧ AR wx lb5 y ds5 ∧ Below w.heap.size w wx)
        case first =>
          obtain ⟨y0, y1, y2, y3, y4, y5, y6, y7, _⟩ := cells8 kH
          have HPN := hide hP
          have HBN := hide hB
          have sN := bs_lt kH
          have HCL := hide (fun (W : World) (hb : Below N.heap.size N W) (o : Nat) => (be_cells hb).1 G2 o sN)
          refine wp_region_held (S := fun W' => Below N.heap.size N W') (by kernel_rfl) ?_
          have HB1 := hide (show Below N.heap.size N N.drew from be_drew (be_refl _))
          have JC := hide (show Below N.heap.size N N.drew from be_drew (be_refl _))
          change wpAnyH _ _ _ _ _ _ _ _ N.drew
          generalize N.drew = W0 at *
          refine take_ (i := 0) (v := ?_) rfl (by kernel_rfl) (by kernel_rfl) (by kernel_rfl) (fun _ _ _ h => h) (Or.inl ⟨by rfl, ?_⟩) JC.out ?_
          rotate_left
          · (intro w5 hSw; have k0 := (HCL.out _ hSw 0).trans y0; have k1 := (HCL.out _ hSw 1).trans y1; have k2 := (HCL.out _ hSw 2).trans y2; have k3 := (HCL.out _ hSw 3).trans y3; have k4 := (HCL.out _ hSw 4).trans y4; have k5 := (HCL.out _ hSw 5).trans y5; have k6 := (HCL.out _ hSw 6).trans y6; have k7 := (HCL.out _ hSw 7).trans y7; go_simp; try (with_reducible rfl))
          try simp only [Act.put, List.setIfInBounds_toArray, List.set_cons_zero, List.set_cons_succ]
          refine take_ (i := 1) (v := ?_) rfl (by kernel_rfl) (by kernel_rfl) (by kernel_rfl) (fun _ _ _ h => h) (Or.inl ⟨by rfl, ?_⟩) JC.out ?_
          rotate_left
          · (intro w5 hSw; have k0 := (HCL.out _ hSw 0).trans y0; have k1 := (HCL.out _ hSw 1).trans y1; have k2 := (HCL.out _ hSw 2).trans y2; have k3 := (HCL.out _ hSw 3).trans y3; have k4 := (HCL.out _ hSw 4).trans y4; have k5 := (HCL.out _ hSw 5).trans y5; have k6 := (HCL.out _ hSw 6).trans y6; have k7 := (HCL.out _ hSw 7).trans y7; go_simp; try (with_reducible rfl))
          try simp only [Act.put, List.setIfInBounds_toArray, List.set_cons_zero, List.set_cons_succ]
          clear y0 y1 y2 y3 y4 y5 y6 y7 kH hP hB sN HCL JC
          refine wpAnyH_ready (rs := [2, 7]) (by kernel_rfl) (by simp) ?_
          refine cons_ rfl (fun K hK => ?_) (cons_ rfl (fun K hK => ?_) nil_)
          · go_simp
            (go_at_call 16; (with_reducible refine (bytes_at l2 N2 HN2.out L2 HL2.out A2 c2 _ ?hr).mono ?_); (case hr => exact R2.out.below (be_call HB1.out hNs HBN.out)); rintro e W2 ⟨o9, cap9, rfl, hR9, hb9⟩)
            have HR9 := hide hR9
            have HB1 := hide (show Below N.heap.size N W2 from be_call hb9 HB1.out.size HB1.out)
            go_wp2_with fail
            refine hK.out _ _ HB1.out (fun _ => ?_)
            try simp only [Act.put, List.setIfInBounds_toArray, List.set_cons_zero, List.set_cons_succ]
            clear hK hb9 hR9
            refine wpAnyH_ready (rs := [3, 7]) (by kernel_rfl) (by simp) ?_
            refine cons_ rfl (fun K hK => ?_) (cons_ rfl (fun K hK => ?_) nil_)
            · go_simp
              (go_at_call 11; (with_reducible refine (feed_clean_at (bytesP l2) (bytesP_ok l2) (by have := bytesP_len l2; omega) N2 HN2.out v y HV.out ky HKY.out.1 A4 c4 _ _ _ (HPN.out.below HB1.out) HR9.out).mono ?_); rintro e W3 ⟨A5, c5, lb5, cap5, o5, ds5, rfl, hc5, hp5, ho5, ha5, hb9⟩)
              have HF5 := hide (And.intro ho5 (And.intro (PF.of hp5) ha5.ar))
              have HB1 := hide (show Below N.heap.size N W3 from be_call hb9 HB1.out.size HB1.out)
              go_wp2_with fail
              refine hK.out _ _ HB1.out (fun _ => ?_)
              try simp only [Act.put, List.setIfInBounds_toArray, List.set_cons_zero, List.set_cons_succ]
              clear hK hb9 hc5 hp5 ho5 ha5
              have JC := hide HB1.out
              refine take_ (i := 4) (v := ?_) rfl (by kernel_rfl) (by kernel_rfl) (by kernel_rfl) (fun _ _ _ h => h) (Or.inl ⟨by rfl, ?_⟩) JC.out ?_
              rotate_left
              · (intro w5 hSw; skip; go_simp; try (with_reducible rfl))
              try simp only [Act.put, List.setIfInBounds_toArray, List.set_cons_zero, List.set_cons_succ]
              refine take_ (i := 5) (v := ?_) rfl (by kernel_rfl) (by kernel_rfl) (by kernel_rfl) (fun _ _ _ h => h) (Or.inl ⟨by rfl, ?_⟩) JC.out ?_
              rotate_left
              · (intro w5 hSw; skip; go_simp; try (with_reducible rfl))
              try simp only [Act.put, List.setIfInBounds_toArray, List.set_cons_zero, List.set_cons_succ]
              refine take_ (i := 6) (v := ?_) rfl (by kernel_rfl) (by kernel_rfl) (by kernel_rfl) (fun _ _ _ h => h) (Or.inl ⟨by rfl, ?_⟩) JC.out ?_
              rotate_left
              · (intro w5 hSw; skip; go_simp; try (with_reducible rfl))
              try simp only [Act.put, List.setIfInBounds_toArray, List.set_cons_zero, List.set_cons_succ]
              clear JC
              refine wpAnyH_ready (rs := [7]) (by kernel_rfl) (by simp) ?_
              refine cons_ rfl (fun K hK => ?_) nil_
              · obtain ⟨G3, hG3⟩ : ∃ G, G = W3.heap.size := ⟨_, rfl⟩
                go_simp
                refine hK.out _ _ (be_alloc HB1.out HB1.out.size) (fun _ => ?_)
                try simp only [Act.put, List.setIfInBounds_toArray, List.set_cons_zero, List.set_cons_succ]
                rw [← hG3]
                refine letter_ (fun W => (W.heap[G3]? = some (.cells esZ 33 (0, 0)) ∧ N.heap.size ≤ G3) ∧ Below N.heap.size N W ∧ Below W3.heap.size W3 W ∧ W3.heap.size ≤ G3) ⟨⟨by rw [hG3]; exact bs_new rfl, by rw [hG3]; exact HB1.out.size⟩, be_alloc HB1.out HB1.out.size, (be_alloc (be_refl _) (Nat.le_refl _)), by rw [hG3]; exact Nat.le_refl _⟩ ?_
                clear hK hG3
                rintro W7 ⟨hg3, hb3, h37, h38⟩
                have HG3 := hide hg3
                have HB1 := hide hb3
                have H37 := hide (And.intro h37 h38)
                clear hg3 hb3 h37 h38
                refine wpAnyH_ready (rs := [8]) (by kernel_rfl) (by simp) ?_
                refine cons_ rfl (fun K hK => ?_) nil_
                · have hg := HG3.out.1
                  have hge := HG3.out.2
                  unfold esZ at hg
                  obtain ⟨z0, z1, z2, z3, z4, z5, z6, z7, fz⟩ := cells8 hg
                  go_simp
                  refine hK.out _ _ (st8_below hge HB1.out _ _ _ _ _ _ _ _) (fun _ => ?_)
                  try simp only [Act.put, List.setIfInBounds_toArray, List.set_cons_zero, List.set_cons_succ]
                  refine letter_ (fun W => (W.heap[G3]? = some (.cells (esC v A5 c5) 33 (0, 0)) ∧ N.heap.size ≤ G3) ∧ Below N.heap.size N W ∧ (sl lb5 ky cap5 = .slice o5 ky cap5 ∧ PF W A5 v.ps ∧ AR W lb5 y ds5)) ⟨⟨st8_cells HG3.out.1 _ _ _ _ _ _ _ _, hge⟩, st8_below hge HB1.out _ _ _ _ _ _ _ _, HF5.out.1, HF5.out.2.1.below (st8_below H37.out.2 H37.out.1 _ _ _ _ _ _ _ _), HF5.out.2.2.below (st8_below H37.out.2 H37.out.1 _ _ _ _ _ _ _ _)⟩ ?_
                  clear hK hg hge z0 z1 z2 z3 z4 z5 z6 z7 fz HG3 HB1 HF5
                  rintro W8 ⟨hg3, hb3, hf5⟩
                  have HG3 := hide hg3
                  have HB1 := hide hb3
                  have HF5 := hide hf5
                  clear hg3 hb3 hf5
                  have JC := hide HB1.out
                  refine take_ (i := 9) (v := ?_) rfl (by kernel_rfl) (by kernel_rfl) (by kernel_rfl) (fun _ _ _ h => h) (Or.inl ⟨by rfl, ?_⟩) JC.out ?_
                  rotate_left
                  · (intro w5 hSw; skip; go_simp; try (with_reducible rfl))
                  try simp only [Act.put, List.setIfInBounds_toArray, List.set_cons_zero, List.set_cons_succ]
                  refine wpAnyH_done (by kernel_rfl) ?_ _
                  go_wp2
                  go_meet
                  exact ⟨G3, A5, c5, lb5, cap5, o5, ds5, rfl, rfl, HF5.out.1, HG3.out.1, HF5.out.2.1, HF5.out.2.2, be_call HB1.out hNs HBN.out⟩
            · obtain ⟨G3, hG3⟩ : ∃ G, G = W2.heap.size := ⟨_, rfl⟩
              go_simp
              refine hK.out _ _ (be_alloc HB1.out HB1.out.size) (fun _ => ?_)
              try simp only [Act.put, List.setIfInBounds_toArray, List.set_cons_zero, List.set_cons_succ]
              rw [← hG3]
              refine letter_ (fun W => (W.heap[G3]? = some (.cells esZ 33 (0, 0)) ∧ N.heap.size ≤ G3) ∧ Below N.heap.size N W ∧ Rd W 0 o9 ((bytesP l2).map (.int .u8))) ⟨⟨by rw [hG3]; exact bs_new rfl, by rw [hG3]; exact HB1.out.size⟩, be_alloc HB1.out HB1.out.size, HR9.out.below (be_alloc (be_refl _) (Nat.le_refl _))⟩ ?_
              clear hK hG3
              rintro W7 ⟨hg3, hb3, hr9⟩
              have HG3 := hide hg3
              have HB1 := hide hb3
              have HR9 := hide hr9
              clear hg3 hb3 hr9
              refine wpAnyH_ready (rs := [3]) (by kernel_rfl) (by simp) ?_
              refine cons_ rfl (fun K hK => ?_) nil_
              · go_simp
                (go_at_call 11; (with_reducible refine (feed_clean_at (bytesP l2) (bytesP_ok l2) (by have := bytesP_len l2; omega) N2 HN2.out v y HV.out ky HKY.out.1 A4 c4 _ _ _ (HPN.out.below HB1.out) HR9.out).mono ?_); rintro e W3 ⟨A5, c5, lb5, cap5, o5, ds5, rfl, hc5, hp5, ho5, ha5, hb9⟩)
                have HF5 := hide (And.intro ho5 (And.intro hp5 ha5))
                have HGB := hide (bs_lt HG3.out.1)
                have HG3 := hide (show W3.heap[G3]? = some (.cells esZ 33 (0, 0)) ∧ N.heap.size ≤ G3 from ⟨bs_below hb9 (bs_lt HG3.out.1) HG3.out.1, HG3.out.2⟩)
                have HB1 := hide (show Below N.heap.size N W3 from be_call hb9 HB1.out.size HB1.out)
                go_wp2_with fail
                refine hK.out _ _ HB1.out (fun _ => ?_)
                try simp only [Act.put, List.setIfInBounds_toArray, List.set_cons_zero, List.set_cons_succ]
                clear hK hb9 hc5 hp5 ho5 ha5
                have JC := hide HB1.out
                refine take_ (i := 4) (v := ?_) rfl (by kernel_rfl) (by kernel_rfl) (by kernel_rfl) (fun _ _ _ h => h) (Or.inl ⟨by rfl, ?_⟩) JC.out ?_
                rotate_left
                · (intro w5 hSw; skip; go_simp; try (with_reducible rfl))
                try simp only [Act.put, List.setIfInBounds_toArray, List.set_cons_zero, List.set_cons_succ]
                refine take_ (i := 5) (v := ?_) rfl (by kernel_rfl) (by kernel_rfl) (by kernel_rfl) (fun _ _ _ h => h) (Or.inl ⟨by rfl, ?_⟩) JC.out ?_
                rotate_left
                · (intro w5 hSw; skip; go_simp; try (with_reducible rfl))
                try simp only [Act.put, List.setIfInBounds_toArray, List.set_cons_zero, List.set_cons_succ]
                refine take_ (i := 6) (v := ?_) rfl (by kernel_rfl) (by kernel_rfl) (by kernel_rfl) (fun _ _ _ h => h) (Or.inl ⟨by rfl, ?_⟩) JC.out ?_
                rotate_left
                · (intro w5 hSw; skip; go_simp; try (with_reducible rfl))
                try simp only [Act.put, List.setIfInBounds_toArray, List.set_cons_zero, List.set_cons_succ]
                clear JC
                refine wpAnyH_ready (rs := [8]) (by kernel_rfl) (by simp) ?_
                refine cons_ rfl (fun K hK => ?_) nil_
                · have hg := HG3.out.1
                  have hge := HG3.out.2
                  unfold esZ at hg
                  obtain ⟨z0, z1, z2, z3, z4, z5, z6, z7, fz⟩ := cells8 hg
                  go_simp
                  refine hK.out _ _ (st8_below hge HB1.out _ _ _ _ _ _ _ _) (fun _ => ?_)
                  try simp only [Act.put, List.setIfInBounds_toArray, List.set_cons_zero, List.set_cons_succ]
                  refine letter_ (fun W => (W.heap[G3]? = some (.cells (esC v A5 c5) 33 (0, 0)) ∧ N.heap.size ≤ G3) ∧ Below N.heap.size N W ∧ (sl lb5 ky cap5 = .slice o5 ky cap5 ∧ PF W A5 v.ps ∧ AR W lb5 y ds5)) ⟨⟨st8_cells HG3.out.1 _ _ _ _ _ _ _ _, hge⟩, st8_below hge HB1.out _ _ _ _ _ _ _ _, HF5.out.1, PF.of (st8_F HGB.out HF5.out.2.1 _ _ _ _ _ _ _ _), (st8_acts HGB.out HF5.out.2.2 _ _ _ _ _ _ _ _).ar⟩ ?_
                  clear hK hg hge z0 z1 z2 z3 z4 z5 z6 z7 fz HG3 HB1 HF5
                  rintro W8 ⟨hg3, hb3, hf5⟩
                  have HG3 := hide hg3
                  have HB1 := hide hb3
                  have HF5 := hide hf5
                  clear hg3 hb3 hf5
                  have JC := hide HB1.out
                  refine take_ (i := 9) (v := ?_) rfl (by kernel_rfl) (by kernel_rfl) (by kernel_rfl) (fun _ _ _ h => h) (Or.inl ⟨by rfl, ?_⟩) JC.out ?_
                  rotate_left
                  · (intro w5 hSw; skip; go_simp; try (with_reducible rfl))
                  try simp only [Act.put, List.setIfInBounds_toArray, List.set_cons_zero, List.set_cons_succ]
                  refine wpAnyH_done (by kernel_rfl) ?_ _
                  go_wp2
                  go_meet
                  exact ⟨G3, A5, c5, lb5, cap5, o5, ds5, rfl, rfl, HF5.out.1, HG3.out.1, HF5.out.2.1, HF5.out.2.2, be_call HB1.out hNs HBN.out⟩
          · obtain ⟨G3, hG3⟩ : ∃ G, G = W0.heap.size := ⟨_, rfl⟩
            go_simp
            refine hK.out _ _ (be_alloc HB1.out HB1.out.size) (fun _ => ?_)
            try simp only [Act.put, List.setIfInBounds_toArray, List.set_cons_zero, List.set_cons_succ]
            rw [← hG3]
            refine letter_ (fun W => (W.heap[G3]? = some (.cells esZ 33 (0, 0)) ∧ N.heap.size ≤ G3) ∧ Below N.heap.size N W) ⟨⟨by rw [hG3]; exact bs_new rfl, by rw [hG3]; exact HB1.out.size⟩, be_alloc HB1.out HB1.out.size⟩ ?_
            clear hK hG3
            rintro W7 ⟨hg3, hb3⟩
            have HG3 := hide hg3
            have HB1 := hide hb3
            clear hg3 hb3
            refine wpAnyH_ready (rs := [2]) (by kernel_rfl) (by simp) ?_
            refine cons_ rfl (fun K hK => ?_) nil_
            · go_simp
              (go_at_call 16; (with_reducible refine (bytes_at l2 N2 HN2.out L2 HL2.out A2 c2 _ ?hr).mono ?_); (case hr => exact R2.out.below (be_call HB1.out hNs HBN.out)); rintro e W2 ⟨o9, cap9, rfl, hR9, hb9⟩)
              have HR9 := hide hR9
              have HG3 := hide (show W2.heap[G3]? = some (.cells esZ 33 (0, 0)) ∧ N.heap.size ≤ G3 from ⟨bs_below hb9 (bs_lt HG3.out.1) HG3.out.1, HG3.out.2⟩)
              have HB1 := hide (show Below N.heap.size N W2 from be_call hb9 HB1.out.size HB1.out)
              go_wp2_with fail
              refine hK.out _ _ HB1.out (fun _ => ?_)
              try simp only [Act.put, List.setIfInBounds_toArray, List.set_cons_zero, List.set_cons_succ]
              clear hK hb9 hR9
              refine wpAnyH_ready (rs := [3]) (by kernel_rfl) (by simp) ?_
              refine cons_ rfl (fun K hK => ?_) nil_
              · go_simp
                (go_at_call 11; (with_reducible refine (feed_clean_at (bytesP l2) (bytesP_ok l2) (by have := bytesP_len l2; omega) N2 HN2.out v y HV.out ky HKY.out.1 A4 c4 _ _ _ (HPN.out.below HB1.out) HR9.out).mono ?_); rintro e W3 ⟨A5, c5, lb5, cap5, o5, ds5, rfl, hc5, hp5, ho5, ha5, hb9⟩)
                have HF5 := hide (And.intro ho5 (And.intro hp5 ha5))
                have HGB := hide (bs_lt HG3.out.1)
                have HG3 := hide (show W3.heap[G3]? = some (.cells esZ 33 (0, 0)) ∧ N.heap.size ≤ G3 from ⟨bs_below hb9 (bs_lt HG3.out.1) HG3.out.1, HG3.out.2⟩)
                have HB1 := hide (show Below N.heap.size N W3 from be_call hb9 HB1.out.size HB1.out)
                go_wp2_with fail
                refine hK.out _ _ HB1.out (fun _ => ?_)
                try simp only [Act.put, List.setIfInBounds_toArray, List.set_cons_zero, List.set_cons_succ]
                clear hK hb9 hc5 hp5 ho5 ha5
                have JC := hide HB1.out
                refine take_ (i := 4) (v := ?_) rfl (by kernel_rfl) (by kernel_rfl) (by kernel_rfl) (fun _ _ _ h => h) (Or.inl ⟨by rfl, ?_⟩) JC.out ?_
                rotate_left
                · (intro w5 hSw; skip; go_simp; try (with_reducible rfl))
                try simp only [Act.put, List.setIfInBounds_toArray, List.set_cons_zero, List.set_cons_succ]
                refine take_ (i := 5) (v := ?_) rfl (by kernel_rfl) (by kernel_rfl) (by kernel_rfl) (fun _ _ _ h => h) (Or.inl ⟨by rfl, ?_⟩) JC.out ?_
                rotate_left
                · (intro w5 hSw; skip; go_simp; try (with_reducible rfl))
                try simp only [Act.put, List.setIfInBounds_toArray, List.set_cons_zero, List.set_cons_succ]
                refine take_ (i := 6) (v := ?_) rfl (by kernel_rfl) (by kernel_rfl) (by kernel_rfl) (fun _ _ _ h => h) (Or.inl ⟨by rfl, ?_⟩) JC.out ?_
                rotate_left
                · (intro w5 hSw; skip; go_simp; try (with_reducible rfl))
                try simp only [Act.put, List.setIfInBounds_toArray, List.set_cons_zero, List.set_cons_succ]
                clear JC
                refine wpAnyH_ready (rs := [8]) (by kernel_rfl) (by simp) ?_
                refine cons_ rfl (fun K hK => ?_) nil_
                · have hg := HG3.out.1
                  have hge := HG3.out.2
                  unfold esZ at hg
                  obtain ⟨z0, z1, z2, z3, z4, z5, z6, z7, fz⟩ := cells8 hg
                  go_simp
                  refine hK.out _ _ (st8_below hge HB1.out _ _ _ _ _ _ _ _) (fun _ => ?_)
                  try simp only [Act.put, List.setIfInBounds_toArray, List.set_cons_zero, List.set_cons_succ]
                  refine letter_ (fun W => (W.heap[G3]? = some (.cells (esC v A5 c5) 33 (0, 0)) ∧ N.heap.size ≤ G3) ∧ Below N.heap.size N W ∧ (sl lb5 ky cap5 = .slice o5 ky cap5 ∧ PF W A5 v.ps ∧ AR W lb5 y ds5)) ⟨⟨st8_cells HG3.out.1 _ _ _ _ _ _ _ _, hge⟩, st8_below hge HB1.out _ _ _ _ _ _ _ _, HF5.out.1, PF.of (st8_F HGB.out HF5.out.2.1 _ _ _ _ _ _ _ _), (st8_acts HGB.out HF5.out.2.2 _ _ _ _ _ _ _ _).ar⟩ ?_
                  clear hK hg hge z0 z1 z2 z3 z4 z5 z6 z7 fz HG3 HB1 HF5
                  rintro W8 ⟨hg3, hb3, hf5⟩
                  have HG3 := hide hg3
                  have HB1 := hide hb3
                  have HF5 := hide hf5
                  clear hg3 hb3 hf5
                  have JC := hide HB1.out
                  refine take_ (i := 9) (v := ?_) rfl (by kernel_rfl) (by kernel_rfl) (by kernel_rfl) (fun _ _ _ h => h) (Or.inl ⟨by rfl, ?_⟩) JC.out ?_
                  rotate_left
                  · (intro w5 hSw; skip; go_simp; try (with_reducible rfl))
                  try simp only [Act.put, List.setIfInBounds_toArray, List.set_cons_zero, List.set_cons_succ]
                  refine wpAnyH_done (by kernel_rfl) ?_ _
                  go_wp2
                  go_meet
                  exact ⟨G3, A5, c5, lb5, cap5, o5, ds5, rfl, rfl, HF5.out.1, HG3.out.1, HF5.out.2.1, HF5.out.2.2, be_call HB1.out hNs HBN.out⟩
        case rest =>
          obtain ⟨G3, A5, c5, lb5, cap5, o5, ds5, rfl, rfl, ho5, kG, hP5, ha5, hB⟩ := hcut
          have HP5 := hide hP5
          have HA5 := hide ha5
          have HO5 := hide ho5
          have sG := bs_lt kG
          have hcs := hB.size
          clear hP5 ha5 ho5
          go_upto_region 12 with (first
            | (go_at_call 16; (with_reducible refine (bytes_at l2 N2 HN2.out L2 HL2.out A2 c2 _ ?hr).mono ?_); (case hr => exact R2.out.below (by (repeat (first | (with_reducible assumption) | with_reducible exact be_refl _ | (with_reducible refine be_set ?_ (by dsimp only; omega)) | (with_reducible apply be_drew) | (with_reducible apply be_drewN) | (with_reducible refine be_alloc ?_ (by first | omega | (simp; omega) | simp)) | (with_reducible refine be_call (by with_reducible assumption) (by first | omega | (simp; omega) | simp) ?_))))); rintro e w9 ⟨o9, cap9, rfl, hR9, hb9⟩; have HR9 := hide hR9; have hz9 := hb9.size; (try simp at hz9); obtain ⟨hc9, hf9⟩ := be_cells hb9; have q1 : G3 < w9.heap.size := (by omega); clear hR9)
            | (go_at_call 11; (with_reducible refine (feed_zero_at (bytesP l2) (bytesP_ok l2) (by have := bytesP_len l2; omega) N2 HN2.out v y HV.out ky HKY.out.1 _ _ _ HR9.out).mono ?_); rintro e w8 ⟨A6, c6, lb6, cap6, o6, ds6, rfl, hc6, hp6, ho6, ha6, hb8⟩; have HP6 := hide (PF.of hp6); have HO6 := hide ho6; have HA6 := hide ha6.ar; have hz8 := hb8.size; (try simp at hz8); obtain ⟨hc8, hf8⟩ := be_cells hb8; have q2 : G3 < w8.heap.size := (by omega); clear hc6 hp6 ho6 ha6))
          refine wp_letter (fun W => (W.heap[G3]? = some (.cells (esC v A5 c5) 33 (0, 0)) ∧ W.heap[w8.heap.size]? = some (.cells (esC v A6 c6) 33 (0, 0))) ∧ (PF W A5 v.ps ∧ PF W A6 v.ps ∧ AR W lb5 y ds5 ∧ AR W lb6 y ds6) ∧ Below w.heap.size w W) ⟨⟨?_, ?_⟩, ⟨?_, ?_, ?_, ?_⟩, ?_⟩ ?_
          · (repeat (first | (with_reducible assumption) | (with_reducible apply bs_same) | (with_reducible apply bs_far; case hp => (dsimp only; omega)) | (with_reducible apply bs_drew) | (with_reducible apply bs_drewN) | (with_reducible apply bs_new; (first | (with_reducible rfl) | (simp; done))) | (with_reducible apply bs_alloc) | (with_reducible apply bs_below; (case hb => with_reducible assumption); (case hB => first | omega | (simp; omega) | (simp; done)))))
          · unfold esC; (apply bs_eq; (case h => (repeat (first | (with_reducible assumption) | (with_reducible apply bs_same) | (with_reducible apply bs_far; case hp => (dsimp only; omega)) | (with_reducible apply bs_drew) | (with_reducible apply bs_drewN) | (with_reducible apply bs_new; (first | (with_reducible rfl) | (simp; done))) | (with_reducible apply bs_alloc) | (with_reducible apply bs_below; (case hb => with_reducible assumption); (case hB => first | omega | (simp; omega) | (simp; done)))))); (case e => rfl))
          · exact HP5.out.below (by (repeat (first | (with_reducible assumption) | with_reducible exact be_refl _ | (with_reducible refine be_set ?_ (by dsimp only; omega)) | (with_reducible apply be_drew) | (with_reducible apply be_drewN) | (with_reducible refine be_alloc ?_ (by first | omega | (simp; omega) | simp)) | (with_reducible refine be_call (by with_reducible assumption) (by first | omega | (simp; omega) | simp) ?_))))
          · exact HP6.out.below (by (repeat (first | (with_reducible assumption) | with_reducible exact be_refl _ | (with_reducible refine be_set ?_ (by dsimp only; omega)) | (with_reducible apply be_drew) | (with_reducible apply be_drewN) | (with_reducible refine be_alloc ?_ (by first | omega | (simp; omega) | simp)) | (with_reducible refine be_call (by with_reducible assumption) (by first | omega | (simp; omega) | simp) ?_))))
          · exact HA5.out.below (by (repeat (first | (with_reducible assumption) | with_reducible exact be_refl _ | (with_reducible refine be_set ?_ (by dsimp only; omega)) | (with_reducible apply be_drew) | (with_reducible apply be_drewN) | (with_reducible refine be_alloc ?_ (by first | omega | (simp; omega) | simp)) | (with_reducible refine be_call (by with_reducible assumption) (by first | omega | (simp; omega) | simp) ?_))))
          · exact HA6.out.below (by (repeat (first | (with_reducible assumption) | with_reducible exact be_refl _ | (with_reducible refine be_set ?_ (by dsimp only; omega)) | (with_reducible apply be_drew) | (with_reducible apply be_drewN) | (with_reducible refine be_alloc ?_ (by first | omega | (simp; omega) | simp)) | (with_reducible refine be_call (by with_reducible assumption) (by first | omega | (simp; omega) | simp) ?_))))
          · (repeat (first | (with_reducible assumption) | with_reducible exact be_refl _ | (with_reducible refine be_set ?_ (by dsimp only; omega)) | (with_reducible apply be_drew) | (with_reducible apply be_drewN) | (with_reducible refine be_alloc ?_ (by first | omega | (simp; omega) | simp)) | (with_reducible refine be_call (by with_reducible assumption) (by first | omega | (simp; omega) | simp) ?_)))
          obtain ⟨G4, hG4⟩ : ∃ G, G = w8.heap.size := ⟨_, rfl⟩
          rw [← hG4]
          have hG34 : G3 ≠ G4 := by omega
          clear hG4 HP5 HP6 HA5 HA6 hb9 hb8 hz9 hz8 hc9 hf9 hc8 hf8 kG sG hB hcs q1 q2 HR9
          rintro N3 ⟨⟨kG, kH⟩, ⟨hp5, hp6, ha5, ha6⟩, hB⟩
          have sG := bs_lt kG
          have sH := bs_lt kH
          have hNs3 := hB.size
          unfold esC at kG kH
          obtain ⟨x0, x1, x2, x3, x4, x5, x6, x7, _⟩ := cells8 kG
          obtain ⟨y0, y1, y2, y3, y4, y5, y6, y7, _⟩ := cells8 kH
          have HP5 := hide hp5
          have HP6 := hide hp6
          have HA5 := hide ha5
          have HA6 := hide ha6
          clear hp5 hp6 ha5 ha6
          go_wp2_with (first
            | (go_at_call 15; (with_reducible refine (sameEsc_at v (by have := HI2.out.wf.l0; omega) A5 A6 c5 c6 _ ?r1 ?r2).mono ?_); (case r1 => exact HP5.out.below (by (repeat (first | (with_reducible assumption) | with_reducible exact be_refl _ | (with_reducible refine be_set ?_ (by dsimp only; omega)) | (with_reducible apply be_drew) | (with_reducible apply be_drewN) | (with_reducible refine be_alloc ?_ (by first | omega | (simp; omega) | simp)) | (with_reducible refine be_call (by with_reducible assumption) (by first | omega | (simp; omega) | simp) ?_))))); (case r2 => exact HP6.out.below (by (repeat (first | (with_reducible assumption) | with_reducible exact be_refl _ | (with_reducible refine be_set ?_ (by dsimp only; omega)) | (with_reducible apply be_drew) | (with_reducible apply be_drewN) | (with_reducible refine be_alloc ?_ (by first | omega | (simp; omega) | simp)) | (with_reducible refine be_call (by with_reducible assumption) (by first | omega | (simp; omega) | simp) ?_))))); rintro e w7 ⟨rfl, hb7⟩; have hz7 := hb7.size; (try simp at hz7))
            | (go_at_call 12; (with_reducible refine (sameActs_at y ky HKY.out.1 HKY.out.2 (fun a h => Nat.le_trans (HPAR.out a h) (by decide)) lb5 lb6 o5 o6 cap5 cap6 HO5.out HO6.out ds5 ds6 _ ?r1 ?r2).mono ?_); (case r1 => exact HA5.out.below (by (repeat (first | (with_reducible assumption) | with_reducible exact be_refl _ | (with_reducible refine be_set ?_ (by dsimp only; omega)) | (with_reducible apply be_drew) | (with_reducible apply be_drewN) | (with_reducible refine be_alloc ?_ (by first | omega | (simp; omega) | simp)) | (with_reducible refine be_call (by with_reducible assumption) (by first | omega | (simp; omega) | simp) ?_))))); (case r2 => exact HA6.out.below (by (repeat (first | (with_reducible assumption) | with_reducible exact be_refl _ | (with_reducible refine be_set ?_ (by dsimp only; omega)) | (with_reducible apply be_drew) | (with_reducible apply be_drewN) | (with_reducible refine be_alloc ?_ (by first | omega | (simp; omega) | simp)) | (with_reducible refine be_call (by with_reducible assumption) (by first | omega | (simp; omega) | simp) ?_))))); rintro e w6 ⟨rfl, hb6⟩; have hz6 := hb6.size; (try simp at hz6))
            | (go_at_call 13; (with_reducible refine (awake_val _).mono ?_); rintro e w5 ⟨rfl, hb5⟩; have hz5 := hb5.size; (try simp at hz5)))
          go_ret
          exact ⟨rfl, by (repeat (first | (with_reducible assumption) | with_reducible exact be_refl _ | (with_reducible refine be_set ?_ (by dsimp only; omega)) | (with_reducible apply be_drew) | (with_reducible apply be_drewN) | (with_reducible refine be_alloc ?_ (by first | omega | (simp; omega) | simp)) | (with_reducible refine be_call (by with_reducible assumption) (by first | omega | (simp; omega) | simp) ?_)))⟩
end Go.Proofs.Ytiahfgcfgpakiaa.EscaCancelW


