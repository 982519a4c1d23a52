/- What esca.Feed hands back: a contract, for every escape that can be and any bytes. -/
import Derived.Test.YtiahfgcfgpakiaaEscaStep
namespace Go.Proofs.Ytiahfgcfgpakiaa.EscaVal
open Go Go.RowKit Go.Proofs.YtiahfgcfgpakiaaKit Go.Proofs.Ytiahfgcfgpakiaa.Mem Go.Proofs.YtiahfgcfgpakiaaW.PrintWords Go.Proofs.YtiahfgcfgpakiaaW.PrintLast Go.Proofs.Ytiahfgcfgpakiaa.Split
set_option linter.unusedVariables false
set_option linter.unusedSimpArgs false
set_option maxHeartbeats 4000000 in
set_option maxRecDepth 100000 in
theorem feed_val (s : E8) (A : Option Addr) (c : Nat) (hw : Wf s) (bs : List Int) (hbb : ∀ x ∈ bs, 0 ≤ x ∧ x ≤ 255) (hlen : bs.length ≤ 100000) (oa : Option Addr) (cb : Nat) (w : World) (base : Nat) (P : Nat → Prop) (hs : Kd.V (Kd.int .i64) 3 w base P (.slice A s.ps.length c) s.ps) (hr : Rd w 0 oa (bs.map (.int .u8))) :
    Calls Try.prog 11 #[esV s A s.ps.length c, .slice oa bs.length cb] w (OutG w (fun _ => False) (feedP s bs)) := by
  obtain ⟨i0, hi, hz0, hz1, hz2⟩ := act_info
  have hC := V_C hs
  have CV := fun (W : World) (hb : Below w.heap.size w W) => hide (clone_val W A s.ps.length c s.ps rfl (C_at hC.1 hb) (by have := hw.l0; omega))
  have HRD := hide hr
  have HBB := hide hbb
  have HL := hide hlen
  have HWF := hide hw
  clear hs hC hr hbb hlen hw
  go_enter Try.func11, Try.ntmps11
  go_upto_region 2 with (go_at_call 17; (with_reducible refine (CV _ (by (repeat (first | (with_reducible assumption) | with_reducible exact be_refl _ | (with_reducible refine be_set ?_ (by dsimp only; omega)) | (with_reducible apply be_drew) | (with_reducible apply be_drewN) | (with_reducible refine be_alloc ?_ (by first | omega | (simp; omega) | simp)) | (with_reducible refine be_call (by with_reducible assumption) (by first | omega | (simp; omega) | simp) ?_))))).out.mono ?_); rintro e w9 ⟨v0, rfl, hR0, hb9⟩; obtain ⟨A0, c0, hv0⟩ := Kd.R_slice hR0; subst hv0; have HR0 := hide hR0; have hz9 := hb9.size; (try simp at hz9); obtain ⟨hc9, hf9⟩ := be_cells hb9; have z9 : w.heap.size < w9.heap.size := (by omega); have y9 : w.heap.size + 1 < w9.heap.size := (by omega); clear hR0)
  refine wp_letter (LI w (fun _ => False) s A0 c0 none 0 [] []) ⟨?_, ?_, .nil _ _, ?_, ?_, ?_⟩ ?_
  · unfold esC; (apply bs_eq; (case h => (repeat (first | (with_reducible assumption) | (with_reducible apply bs_same) | (with_reducible apply bs_far; case hp => (dsimp only; omega)) | (with_reducible apply bs_drew) | (with_reducible apply bs_drewN) | (with_reducible apply bs_new; (first | (with_reducible rfl) | (simp; done))) | (with_reducible apply bs_alloc) | (with_reducible apply bs_below; (case hb => with_reducible assumption); (case hB => first | omega | (simp; omega) | (simp; done)))))); (case e => rfl))
  · unfold esZ; (repeat (first | (with_reducible assumption) | (with_reducible apply bs_same) | (with_reducible apply bs_far; case hp => (dsimp only; omega)) | (with_reducible apply bs_drew) | (with_reducible apply bs_drewN) | (with_reducible apply bs_new; (first | (with_reducible rfl) | (simp; done))) | (with_reducible apply bs_alloc) | (with_reducible apply bs_below; (case hb => with_reducible assumption); (case hB => first | omega | (simp; omega) | (simp; done)))))
  · exact (Kd.R_reads' HR0.out).2.1
  · refine Kd.F_mono (ok := fun k => w.heap.size + 2 ≤ k) ?_ (fun k hk => ⟨.inr hk, fun e => by cases e⟩)
    refine Kd.F_far ?_ (fun k hk => by dsimp only; omega) _
    exact Kd.F_mono (Kd.R_F (R_base HR0.out)) (fun k hk => by simpa using hk)
  · (repeat (first | (with_reducible assumption) | with_reducible exact be_refl _ | (with_reducible refine be_set ?_ (by dsimp only; omega)) | (with_reducible apply be_drew) | (with_reducible apply be_drewN) | (with_reducible refine be_alloc ?_ (by first | omega | (simp; omega) | simp)) | (with_reducible refine be_call (by with_reducible assumption) (by first | omega | (simp; omega) | simp) ?_)))
  clear CV HR0 hb9 hz9 hc9 hf9 z9 y9
  intro M hM
  have HM := hide hM
  clear hM
  go_wp2
  go_loopw [6, 17] (fun v6 v17 wr => ∃ (j : Nat) (s' : E8) (A' : Option Addr) (c' : Nat) (lb : Option Nat) (cap : Nat) (l : List Act3) (ds : List ActD), j ≤ bs.length ∧ v17 = .int .i64 (j : Int) ∧ v6 = sl lb l.length cap ∧ LI w (fun _ => False) s' A' c' lb cap l ds wr ∧ Wf s' ∧ feedP s bs = ((feedP s' (bs.drop j)).1, l ++ (feedP s' (bs.drop j)).2) ∧ l.length ≤ 2 * j) (fun v6 v17 _ => (bs.length - intOf v17).toNat)
  case atStart => exact ⟨0, s, A0, c0, none, 0, [], [], Nat.zero_le _, rfl, rfl, HM.out, HWF.out, by simp, Nat.le_refl _⟩
  case round =>
    obtain ⟨j, s', A', c', lb, cap, l, ds, hj, rfl, rfl, hLI, hws, hsig, hlj⟩ := hrel
    obtain ⟨ob, hob⟩ := sl_to lb l.length cap
    rw [hob]
    have HOB := hide hob
    have hRo := HRD.out.below (be_call hLI.be (Nat.le_refl _) (be_refl w))
    have HWS := hide hws
    clear hob HM hws
    obtain ⟨L, hL⟩ : ∃ L, L = bs.length := ⟨_, rfl⟩
    have HUL := hide hL
    rw [← hL] at hj HL ⊢
    by_cases hjl : j < L
    · have r1 : ((j : Int) < (L : Int)) = True := eq_true (by omega)
      have r1' : (j : Int) < (L : Int) := by omega
      have r0 : (0 : Int) ≤ (j : Int) := by omega
      obtain ⟨x, hx⟩ : ∃ x, bs[j]? = some x := ⟨_, List.getElem?_eq_getElem (by omega)⟩
      have hdrop : bs.drop j = x :: bs.drop (j + 1) := by
        have h := List.drop_eq_getElem_cons (show j < bs.length by omega)
        rw [List.getElem?_eq_getElem (show j < bs.length by omega)] at hx
        cases hx
        exact h
      have hxn := HBB.out x (List.mem_of_getElem? hx)
      obtain ⟨ad, e1, _, hcx⟩ := hRo.at_ j (.int .u8 x) (by simp [hx])
      subst e1
      have SV := hide (step_val s' A' c' x hxn.1 hxn.2 wr _ HWS.out hLI.V)
      obtain ⟨s2, hs2⟩ : ∃ s2, s2 = (stepP s' x).1 := ⟨_, rfl⟩
      obtain ⟨l2, hl2⟩ : ∃ l2, l2 = (stepP s' x).2 := ⟨_, rfl⟩
      have hll := step_len s' x
      have hsg : feedP s bs = ((feedP s2 (bs.drop (j + 1))).1, (l ++ l2) ++ (feedP s2 (bs.drop (j + 1))).2) := by rw [hsig, hdrop, hs2, hl2]; simp only [feedP, List.append_assoc]
      have hu : stepP s' x = (s2, l2) := by rw [hs2, hl2]
      rw [hu] at SV
      rw [← hl2] at hll
      have hws2 : Wf s2 := by rw [hs2]; exact HWS.out.step x
      have HWS2 := hide hws2
      have HSG := hide hsg
      have HLL := hide (And.intro hll hlj)
      have HJ := hide hjl
      have HLI := hide hLI
      have hme := hLI.me
      unfold esC at hme
      obtain ⟨x0, x1, x2, x3, x4, x5, x6, x7, _⟩ := cells8 hme
      clear hx hdrop hxn hsig hs2 hl2 hu hsg hll hlj hjl hLI hRo hme hj hL hws2
      go_upto_region 7 with (go_at_call 18; (with_reducible refine SV.out.mono ?_); rintro e w9 ⟨A2, c2, lb2, cap2, ds2, rfl, hlc2, hF2, ha2, hb9⟩; have HH := hide (And.intro hlc2 (And.intro hF2 ha2)); obtain ⟨o2, ho2⟩ := sl_to lb2 l2.length cap2; dsimp only at ho2 ⊢; rw [ho2]; have HO2 := hide ho2; clear hlc2 hF2 ha2 ho2)
      have hL2 : L ≤ 100000 := HL.out
      refine wp_letter (fun W => LN w (fun _ => False) s' A' c' lb cap l ds w9.heap.size s2 A2 c2 lb2 cap2 l2 ds2 wr.heap.size W) (LN.of HLI.out hb9 HH.out.1 HH.out.2.1 HH.out.2.2 (be_alloc (be_refl _) (Nat.le_refl _)) (bs_new rfl) hb9.size) ?_
      clear HLI HH hb9 SV x0 x1 x2 x3 x4 x5 x6 x7 hcx
      intro M hN
      obtain ⟨G, hG⟩ : ∃ G, G = w9.heap.size := ⟨_, rfl⟩
      obtain ⟨B, hB⟩ : ∃ B, B = wr.heap.size := ⟨_, rfl⟩
      rw [← hG, ← hB] at hN
      rw [← hG]
      clear hG hB
      have hne : some G ≠ lb := fun e => by have := hN.lbB G e.symm; have := hN.geG; omega
      refine wp_region_held (S := fun W' => W'.heap[G]? = some (.cells (esC s2 A2 c2) 33 (0, 0))) (by kernel_rfl) ?_
      have JC := hide (bs_drew hN.nxt)
      change wpAnyH _ _ _ _ _ _ _ _ M.drew
      have hN := hN.below (be_drew (be_refl _))
      generalize M.drew = W0 at *
      refine take_ (i := 0) (v := ?_) rfl (by kernel_rfl) (by kernel_rfl) (by kernel_rfl) (fun _ _ _ h => h) (Or.inl ⟨by rfl, ?_⟩) JC.out ?_
      rotate_left
      · (intro w5 hSw; unfold esC at hSw; obtain ⟨k0, k1, k2, k3, k4, k5, k6, k7, _⟩ := cells8 hSw; go_simp; try (with_reducible rfl))
      try simp only [Act.put, List.setIfInBounds_toArray, List.set_cons_zero, List.set_cons_succ]
      refine take_ (i := 1) (v := ?_) rfl (by kernel_rfl) (by kernel_rfl) (by kernel_rfl) (fun _ _ _ h => h) (Or.inl ⟨by rfl, ?_⟩) JC.out ?_
      rotate_left
      · (intro w5 hSw; unfold esC at hSw; obtain ⟨k0, k1, k2, k3, k4, k5, k6, k7, _⟩ := cells8 hSw; go_simp; try (with_reducible rfl))
      try simp only [Act.put, List.setIfInBounds_toArray, List.set_cons_zero, List.set_cons_succ]
      refine take_ (i := 2) (v := ?_) rfl (by kernel_rfl) (by kernel_rfl) (by kernel_rfl) (fun _ _ _ h => h) (Or.inl ⟨by rfl, ?_⟩) JC.out ?_
      rotate_left
      · (intro w5 hSw; unfold esC at hSw; obtain ⟨k0, k1, k2, k3, k4, k5, k6, k7, _⟩ := cells8 hSw; go_simp; try (with_reducible rfl))
      try simp only [Act.put, List.setIfInBounds_toArray, List.set_cons_zero, List.set_cons_succ]
      refine wpAnyH_ready (rs := [3]) (by kernel_rfl) (by simp) ?_
      refine cons_ rfl (fun K hK => ?_) nil_
      have hrd : Rd W0 0 o2 (flatD ds2) := by have h := HO2.out; simp [sl] at h; rw [← h]; exact (Rd.of hN.acts2.own).lower (Nat.zero_le _)
      refine step_append_rd _ (by rfl) (.tmp 28) (.tmp 29) 27 (by rfl) (w.heap.size + 2) 24 i0 _ 3 40 Try.underlying27 hi hz0 hz1 hz2 rfl (by omega) lb l.length cap (flatD ds) (HOB.out.symm) hN.li.acts.own o2 l2.length cap2 (flatD ds2) (by rfl) (by rw [flatD_len, hN.acts2.len]) hrd (flatD_one _) (by have := HLL.out; unfold maxLen; omega) (by have := HLL.out; omega) hN.li.sz ?_
      intro lb3 cap3 W5 hown hgrow hat
      have hA := hN.append hgrow hat hown
      have hg5 : W5.heap[G]? = some (.cells (esC s2 A2 c2) 33 (0, 0)) := (hgrow.block _ (bs_lt hN.nxt) hne).trans hN.nxt
      have hG2 : w.heap.size + 2 ≤ G := Nat.le_trans hN.geB hN.geG
      refine hK.out _ _ hg5 (fun _ => ?_)
      try simp only [Act.put, List.setIfInBounds_toArray, List.set_cons_zero, List.set_cons_succ]
      obtain ⟨o3, ho3⟩ := sl_to lb3 (l.length + l2.length) cap3
      rw [ho3]
      have HO3 := hide ho3
      refine letter_ (fun W => LA w (fun _ => False) s' A' c' lb3 cap3 (l ++ l2) (ds ++ ds2) s2 A2 c2 W ∧ W.heap[G]? = some (.cells (esC s2 A2 c2) 33 (0, 0))) ⟨hA, hg5⟩ ?_
      clear hA hg5 hown hgrow hat hrd hK hN hne ho3 JC
      rintro W1 ⟨hA, hg⟩
      refine wpAnyH_ready (rs := [4]) (by kernel_rfl) (by simp) ?_
      refine cons_ rfl (fun K hK => ?_) nil_
      have hme := hA.li.me
      unfold esC at hme
      obtain ⟨x0, x1, x2, x3, x4, x5, x6, x7, fz⟩ := cells8 hme
      go_simp
      refine hK.out _ _ ?_ (fun _ => ?_)
      · repeat (with_reducible apply bs_far; case hp => (dsimp only; omega))
        exact hg
      try simp only [Act.put, List.setIfInBounds_toArray, List.set_cons_zero, List.set_cons_succ]
      refine letter_ (fun W => LI w (fun _ => False) s2 A2 c2 lb3 cap3 (l ++ l2) (ds ++ ds2) W ∧ W.heap[G]? = some (.cells (esC s2 A2 c2) 33 (0, 0))) ⟨hA.store, ?_⟩ ?_
      · repeat (with_reducible apply bs_far; case hp => (dsimp only; omega))
        exact hg
      clear hA hg hK hme x0 x1 x2 x3 x4 x5 x6 x7 fz
      rintro W2 ⟨hLI, hg⟩
      have JC := hide hg
      refine take_ (i := 5) (v := ?_) rfl (by kernel_rfl) (by kernel_rfl) (by kernel_rfl) (fun _ _ _ h => h) (Or.inl ⟨by rfl, ?_⟩) JC.out ?_
      rotate_left
      · (intro w5 hSw; skip; go_simp; try (with_reducible rfl))
      try simp only [Act.put, List.setIfInBounds_toArray, List.set_cons_zero, List.set_cons_succ]
      refine wpAnyH_done (by kernel_rfl) ?_ _
      go_wp2
      exact ⟨⟨j + 1, s2, A2, c2, lb3, cap3, l ++ l2, ds ++ ds2, by have := HJ.out; omega, by simp, by rw [List.length_append, HO3.out], hLI, HWS2.out, HSG.out, by rw [List.length_append]; have := HLL.out; omega⟩, by simp only [intOf]; have := HJ.out; omega⟩
    · have r1 : ((j : Int) < (L : Int)) = False := eq_false (by omega)
      have hd : bs.drop j = [] := List.drop_eq_nil_of_le (by omega)
      rw [hd] at hsig
      have hs2 : feedP s bs = (s', l) := by rw [hsig]; simp [feedP]
      have HS2 := hide hs2
      have hme := hLI.me
      unfold esC at hme
      obtain ⟨x0, x1, x2, x3, x4, x5, x6, x7, _⟩ := cells8 hme
      have hres := hLI.res
      unfold esZ at hres
      obtain ⟨y0, y1, y2, y3, y4, y5, y6, y7, fz⟩ := cells8 hres
      have HLI := hide hLI
      have hbe := hLI.be
      clear hd hsig hs2 hLI hRo hj hjl hlj hL
      go_wp2
      refine bodyPost_ret (results_ct rfl _ _ (w.heap.size + 1) 33 (esC s' A' c') (0, 0) _ rfl ?_ Try.underlying33 rfl (by kernel_rfl)) rfl ?_
      · unfold esC; (apply bs_eq; (case h => (repeat (first | (with_reducible assumption) | (with_reducible apply bs_same) | (with_reducible apply bs_far; case hp => (dsimp only; omega)) | (with_reducible apply bs_drew) | (with_reducible apply bs_drewN) | (with_reducible apply bs_new; (first | (with_reducible rfl) | (simp; done))) | (with_reducible apply bs_alloc) | (with_reducible apply bs_below; (case hb => with_reducible assumption); (case hB => first | omega | (simp; omega) | (simp; done)))))); (case e => rfl))
      · show OutG w (fun _ => False) (feedP s bs) _ _
        rw [HS2.out]
        refine ⟨A', c', lb, cap, ds, by dsimp only; rw [HOB.out]; rfl, HLI.out.lc, ?_, ?_, by (repeat (first | (with_reducible assumption) | with_reducible exact be_refl _ | (with_reducible refine be_set ?_ (by dsimp only; omega)) | (with_reducible apply be_drew) | (with_reducible apply be_drewN) | (with_reducible refine be_alloc ?_ (by first | omega | (simp; omega) | simp)) | (with_reducible refine be_call (by with_reducible assumption) (by first | omega | (simp; omega) | simp) ?_)))⟩
        · refine Kd.F_mono (ok := fun k => ((False ∧ k < w.heap.size) ∨ w.heap.size + 2 ≤ k) ∧ some k ≠ lb) ?_ (fun k hk => ⟨hk.1.imp (fun h => h.1) (fun h => by omega), hk.2⟩)
          repeat (with_reducible refine Kd.F_far ?_ (fun k hk => by have := hk.1; dsimp only; omega) _)
          exact HLI.out.par
        · refine ActsL.lower (base := w.heap.size + 2) ?_ (by omega)
          repeat (with_reducible refine ActsL.far ?_ (by dsimp only; omega) _)
          exact HLI.out.acts
end Go.Proofs.Ytiahfgcfgpakiaa.EscaVal


