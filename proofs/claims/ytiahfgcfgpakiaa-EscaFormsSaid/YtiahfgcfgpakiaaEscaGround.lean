/- What esca.ground hands back: a contract, for every escape that can be and every byte. -/
import Derived.Test.YtiahfgcfgpakiaaEscaActs
namespace Go.Proofs.Ytiahfgcfgpakiaa.EscaVal
open Go Go.RowKit Go.Proofs.YtiahfgcfgpakiaaKit Go.Proofs.Ytiahfgcfgpakiaa.Mem Go.Proofs.YtiahfgcfgpakiaaW.PrintWords Go.Proofs.YtiahfgcfgpakiaaW.PrintLast Go.Proofs.Ytiahfgcfgpakiaa.Split
set_option linter.unusedVariables false
set_option linter.unusedSimpArgs false
theorem act_info : ∃ i, Try.prog.info? 24 = some i ∧ i.zero = some (.agg #[.int .i64 0, .int .i32 0, .slice none 0 0]) ∧ i.size = 3 ∧ i.bytes = 40 :=
  info_parts (show (Try.prog.info? 24).map (fun i => (i.zero, i.size, i.bytes)) = some (some (.agg #[.int .i64 0, .int .i32 0, .slice none 0 0]), 3, 40) by kernel_rfl)
theorem begin_nn (b : Int) (h0 : 0 ≤ b) : ∀ x ∈ (beginP b).2, 0 ≤ x := by
  unfold beginP
  repeat' split
  all_goals
    intro x hx
    simp at hx
    try omega
theorem utf_nn (n1 n2 n3 b : Int) (h0 : 0 ≤ b) (s1 : 0 ≤ n3) : ∀ x ∈ (utfP n1 n2 n3 b).2, 0 ≤ x := by
  have h := begin_nn b h0
  have h6 := and63 b
  unfold utfP
  repeat' split
  all_goals
    intro x hx
    first
      | exact h x hx
      | (rcases List.mem_cons.1 hx with rfl | hx
         · omega
         · exact h x hx)
      | (simp at hx; try omega)
set_option maxHeartbeats 4000000 in
set_option maxRecDepth 100000 in
theorem ground_val (s : E8) (A : Option Addr) (c : Nat) (b : Int) (h0 : 0 ≤ b) (h1 : b ≤ 255) (g0 : s.n1 ≤ 3) (g1 : 0 ≤ s.n3) (g2 : s.n3 < 32768) (w : World) (P : Nat → Prop) (hs : Kd.V (Kd.int .i64) 3 w w.heap.size P (.slice A s.ps.length c) s.ps) :
    Calls Try.prog 25 #[esV s A s.ps.length c, .int .u8 b] w (OutG w P (groundP s b)) := by
  obtain ⟨i0, hi, hz0, hz1, hz2⟩ := act_info
  have UV := fun W => hide (utf_val s.n1 s.n2 s.n3 b W h0 h1 g0 g1 g2)
  have hnn := utf_nn s.n1 s.n2 s.n3 b h0 g1
  have hlen := utf_len s.n1 s.n2 s.n3 b
  have hV0 := Kd.V_bound hs
  obtain ⟨A', c', hv, hlc, hF⟩ := hV0
  cases hv
  have HF := hide hF
  have HLC := hide hlc
  obtain ⟨E, hE⟩ : ∃ E, E = utfE s b := ⟨_, rfl⟩
  obtain ⟨us, hus⟩ : ∃ us, us = (utfP s.n1 s.n2 s.n3 b).2 := ⟨_, rfl⟩
  obtain ⟨m1, hm1⟩ : ∃ m1, m1 = (utfP s.n1 s.n2 s.n3 b).1.1 := ⟨_, rfl⟩
  obtain ⟨m2, hm2⟩ : ∃ m1, m1 = (utfP s.n1 s.n2 s.n3 b).1.2.1 := ⟨_, rfl⟩
  obtain ⟨m3, hm3⟩ : ∃ m1, m1 = (utfP s.n1 s.n2 s.n3 b).1.2.2 := ⟨_, rfl⟩
  have hEE : E = ⟨s.m, m1, m2, m3, s.ps, s.num, s.q, s.r⟩ := by rw [hE, hm1, hm2, hm3]; rfl
  rw [show groundP s b = signsP E us by rw [hE, hus]; rfl]
  rw [← hus] at hnn hlen
  have UV2 : ∀ W : World, Hid (Calls Try.prog 32 #[.agg #[.int .i64 s.n1, .int .i64 s.n2, .int .i64 s.n3], .int .u8 b] W fun e w' => ∃ (lr : Option Nat) (cr : Nat), e = .returned (.tuple #[.agg #[.int .i64 m1, .int .i64 m2, .int .i64 m3], sl lr us.length cr]) ∧ Own w' W.heap.size 21 1 lr us.length cr (us.map (.int .i32)) ∧ Below W.heap.size W w') := fun W => hide ((UV W).out.mono (fun e w' h => by
    obtain ⟨v, h2, ⟨lr, cr, h3, h4⟩, h5⟩ := h
    rw [← hus] at h3 h4
    exact ⟨lr, cr, by rw [h2, h3, hm1, hm2, hm3], h4, h5⟩))
  have HNN := hide hnn
  have HL := hide hlen
  clear hE hus hm1 hm2 hm3 UV hnn hlen hs hF hlc g0 g1 g2
  go_enter Try.func25, Try.ntmps25
  go_upto_region 3 with (go_at_call 32; (with_reducible refine (UV2 _).out.mono ?_); rintro e w9 ⟨lr, cr, rfl, hO, hb9⟩; obtain ⟨oa, hoa⟩ := sl_to lr us.length cr; rw [hoa]; have HOA := hide hoa; have HO := hide hO; have hz9 := hb9.size; (try simp at hz9); obtain ⟨hc9, hf9⟩ := be_cells hb9; have z9 : w.heap.size < w9.heap.size := (by omega); have y9 : w.heap.size + 1 < w9.heap.size := (by omega); clear hoa hO)
  refine wp_letter (fun W => LI w P E A c none 0 [] [] W ∧ Own W (w.heap.size + 2) 21 1 lr us.length cr (us.map (.int .i32))) ⟨⟨?_, ?_, .nil _ _, ?_, ?_, ?_⟩, ?_⟩ ?_
  · rw [hEE]; unfold esC; (apply bs_eq; (case h => (repeat (first | (with_reducible assumption) | (with_reducible apply bs_same) | (with_reducible apply bs_far; case hp => (dsimp only; omega)) | (with_reducible apply bs_drew) | (with_reducible apply bs_drewN) | (with_reducible apply bs_new; (first | (with_reducible rfl) | (simp; done))) | (with_reducible apply bs_alloc) | (with_reducible apply bs_below; (case hb => with_reducible assumption); (case hB => first | omega | (simp; omega) | (simp; done)))))); (case e => rfl))
  · unfold esZ; (repeat (first | (with_reducible assumption) | (with_reducible apply bs_same) | (with_reducible apply bs_far; case hp => (dsimp only; omega)) | (with_reducible apply bs_drew) | (with_reducible apply bs_drewN) | (with_reducible apply bs_new; (first | (with_reducible rfl) | (simp; done))) | (with_reducible apply bs_alloc) | (with_reducible apply bs_below; (case hb => with_reducible assumption); (case hB => first | omega | (simp; omega) | (simp; done)))))
  · rw [hEE]; exact HLC.out
  · rw [hEE]
    refine Kd.F_mono (Kd.F_step HF.out (fun k hk hlt => ?_)) (fun k hk => ⟨.inl hk, fun e => by cases e⟩)
    exact (show Below w.heap.size w _ by (repeat (first | (with_reducible assumption) | with_reducible exact be_refl _ | (with_reducible refine be_set ?_ (by dsimp only; omega)) | (with_reducible apply be_drew) | (with_reducible apply be_drewN) | (with_reducible refine be_alloc ?_ (by first | omega | (simp; omega) | simp)) | (with_reducible refine be_call (by with_reducible assumption) (by first | omega | (simp; omega) | simp) ?_)))).block k hlt
  · (repeat (first | (with_reducible assumption) | with_reducible exact be_refl _ | (with_reducible refine be_set ?_ (by dsimp only; omega)) | (with_reducible apply be_drew) | (with_reducible apply be_drewN) | (with_reducible refine be_alloc ?_ (by first | omega | (simp; omega) | simp)) | (with_reducible refine be_call (by with_reducible assumption) (by first | omega | (simp; omega) | simp) ?_)))
  · have h := HO.out
    simp at h
    repeat (with_reducible refine Own.far ?_ (fun k e => by subst e; have := (own_base h).1; dsimp only; omega) _)
    exact h
  clear hEE HF HLC UV2 HO hb9 hz9 hc9 hf9 z9 y9
  rintro M ⟨hM, hR⟩
  have HM := hide hM
  have HR := hide hR
  clear hM hR
  go_wp2
  go_loopw [7, 22] (fun v7 v22 wr => ∃ (j : Nat) (s' : E8) (A' : Option Addr) (c' : Nat) (lb : Option Nat) (cap : Nat) (l : List Act3) (ds : List ActD), j ≤ us.length ∧ v22 = .int .i64 (j : Int) ∧ v7 = sl lb l.length cap ∧ LI w P s' A' c' lb cap l ds wr ∧ Own wr (w.heap.size + 2) 21 1 lr us.length cr (us.map (.int .i32)) ∧ signsP E us = ((signsP s' (us.drop j)).1, l ++ (signsP s' (us.drop j)).2) ∧ l.length ≤ j) (fun v7 v22 _ => (us.length - intOf v22).toNat)
  case atStart => exact ⟨0, E, A, c, none, 0, [], [], Nat.zero_le _, rfl, rfl, HM.out, HR.out, by simp, Nat.le_refl _⟩
  case round =>
    obtain ⟨j, s', A', c', lb, cap, l, ds, hj, rfl, rfl, hLI, hRo, hsig, hlj⟩ := hrel
    obtain ⟨ob, hob⟩ := sl_to lb l.length cap
    rw [hob]
    have HOB := hide hob
    clear hob HM HR
    obtain ⟨L, hL⟩ : ∃ L, L = us.length := ⟨_, rfl⟩
    have HUL := hide hL
    rw [← hL] at hRo hj HL ⊢
    by_cases hjl : j < L
    · have r1 : ((j : Int) < (L : Int)) = True := eq_true (by omega)
      have r1' : (j : Int) < (L : Int) := by omega
      have r0 : (0 : Int) ≤ (j : Int) := by omega
      obtain ⟨x, hx⟩ : ∃ x, us[j]? = some x := ⟨_, List.getElem?_eq_getElem (by omega)⟩
      have hdrop : us.drop j = x :: us.drop (j + 1) := by
        have h := List.drop_eq_getElem_cons (show j < us.length by omega)
        rw [List.getElem?_eq_getElem (show j < us.length by omega)] at hx
        cases hx
        exact h
      have hxn := HNN.out x (List.mem_of_getElem? hx)
      obtain ⟨br, hbr, hbrl, _, hcx⟩ := hRo.cell j (.int .i32 x) (by simp [hx])
      have e1 : oa = some ⟨br, 0, none⟩ := by have h := HOA.out; rw [hbr] at h; simp [sl] at h; exact h.symm
      subst e1
      have SV := hide (sign_val s' A' s'.ps.length c' x hxn wr _ hLI.V)
      obtain ⟨s2, hs2⟩ : ∃ s2, s2 = (signP s' x).1 := ⟨_, rfl⟩
      obtain ⟨l2, hl2⟩ : ∃ l2, l2 = (signP s' x).2 := ⟨_, rfl⟩
      have hll := sign_len s' x
      have hsg : signsP E us = ((signsP s2 (us.drop (j + 1))).1, (l ++ l2) ++ (signsP s2 (us.drop (j + 1))).2) := by rw [hsig, hdrop, hs2, hl2]; simp only [signsP, List.append_assoc]
      have hu : signP s' x = (s2, l2) := by rw [hs2, hl2]
      rw [hu] at SV
      rw [← hl2] at hll
      have HSG := hide hsg
      have HLL := hide (And.intro hll hlj)
      have HJ := hide hjl
      have HLI := hide hLI
      have HRO := hide hRo
      have hme := hLI.me
      unfold esC at hme
      obtain ⟨x0, x1, x2, x3, x4, x5, x6, x7, _⟩ := cells8 hme
      clear hx hdrop hxn hsig hs2 hl2 hu hsg hll hlj hjl hLI hRo hme hbr hj hL
      go_upto_region 8 with (go_at_call 33; (with_reducible refine SV.out.mono ?_); rintro e w9 ho; obtain ⟨A2, c2, lb2, cap2, ds2, rfl, hlc2, hF2, ha2, hb9⟩ := ho.g; have HH := hide (And.intro hlc2 (And.intro hF2 ha2)); obtain ⟨o2, ho2⟩ := sl_to lb2 l2.length cap2; dsimp only at ho2 ⊢; rw [ho2]; have HO2 := hide ho2; clear ho hlc2 hF2 ha2 ho2)
      have hL2 : L ≤ 2 := HL.out
      refine wp_letter (fun W => LN w P s' A' c' lb cap l ds w9.heap.size s2 A2 c2 lb2 cap2 l2 ds2 wr.heap.size W ∧ Own W (w.heap.size + 2) 21 1 lr L cr (us.map (.int .i32))) ⟨LN.of HLI.out hb9 HH.out.1 HH.out.2.1 HH.out.2.2 (be_alloc (be_refl _) (Nat.le_refl _)) (bs_new rfl) hb9.size, (HRO.out.below hb9).alloc _⟩ ?_
      clear HLI HRO HH hb9 SV x0 x1 x2 x3 x4 x5 x6 x7 hcx hbrl
      rintro M ⟨hN, hR⟩
      obtain ⟨G, hG⟩ : ∃ G, G = w9.heap.size := ⟨_, rfl⟩
      obtain ⟨B, hB⟩ : ∃ B, B = wr.heap.size := ⟨_, rfl⟩
      rw [← hG, ← hB] at hN
      rw [← hG]
      clear hG hB
      have hne : some G ≠ lb := fun e => by have := hN.lbB G e.symm; have := hN.geG; omega
      have hrl : ∀ b, lr = some b → some b ≠ lb := fun b e1 e2 => by
        subst e1
        have h3 := hN.li.acts.own
        rw [← e2] at h3
        exact absurd (own_apart hR h3) (by decide)
      refine wp_region_held (S := fun W' => W'.heap[G]? = some (.cells (esC s2 A2 c2) 33 (0, 0))) (by kernel_rfl) ?_
      have JC := hide (bs_drew hN.nxt)
      change wpAnyH _ _ _ _ _ _ _ _ M.drew
      have hN := hN.below (be_drew (be_refl _))
      have hR := hR.drew
      generalize M.drew = W0 at *
      refine take_ (i := 0) (v := ?_) rfl (by kernel_rfl) (by kernel_rfl) (by kernel_rfl) (fun _ _ _ h => h) (Or.inl ⟨by rfl, ?_⟩) JC.out ?_
      rotate_left
      · (intro w5 hSw; unfold esC at hSw; obtain ⟨k0, k1, k2, k3, k4, k5, k6, k7, _⟩ := cells8 hSw; go_simp; try (with_reducible rfl))
      try simp only [Act.put, List.setIfInBounds_toArray, List.set_cons_zero, List.set_cons_succ]
      refine take_ (i := 1) (v := ?_) rfl (by kernel_rfl) (by kernel_rfl) (by kernel_rfl) (fun _ _ _ h => h) (Or.inl ⟨by rfl, ?_⟩) JC.out ?_
      rotate_left
      · (intro w5 hSw; unfold esC at hSw; obtain ⟨k0, k1, k2, k3, k4, k5, k6, k7, _⟩ := cells8 hSw; go_simp; try (with_reducible rfl))
      try simp only [Act.put, List.setIfInBounds_toArray, List.set_cons_zero, List.set_cons_succ]
      refine take_ (i := 2) (v := ?_) rfl (by kernel_rfl) (by kernel_rfl) (by kernel_rfl) (fun _ _ _ h => h) (Or.inl ⟨by rfl, ?_⟩) JC.out ?_
      rotate_left
      · (intro w5 hSw; unfold esC at hSw; obtain ⟨k0, k1, k2, k3, k4, k5, k6, k7, _⟩ := cells8 hSw; go_simp; try (with_reducible rfl))
      try simp only [Act.put, List.setIfInBounds_toArray, List.set_cons_zero, List.set_cons_succ]
      refine wpAnyH_ready (rs := [3]) (by kernel_rfl) (by simp) ?_
      refine cons_ rfl (fun K hK => ?_) nil_
      have hrd : Rd W0 0 o2 (flatD ds2) := by have h := HO2.out; simp [sl] at h; rw [← h]; exact (Rd.of hN.acts2.own).lower (Nat.zero_le _)
      refine step_append_rd _ (by rfl) (.tmp 33) (.tmp 34) 27 (by rfl) (w.heap.size + 2) 24 i0 _ 3 40 Try.underlying27 hi hz0 hz1 hz2 rfl (by omega) lb l.length cap (flatD ds) (HOB.out.symm) hN.li.acts.own o2 l2.length cap2 (flatD ds2) (by rfl) (by rw [flatD_len, hN.acts2.len]) hrd (flatD_one _) (by have := HLL.out; unfold maxLen; omega) (by have := HLL.out; omega) hN.li.sz ?_
      intro lb3 cap3 W5 hown hgrow hat
      have hA := hN.append hgrow hat hown
      have hR5 := hR.grown hgrow hrl
      have hg5 : W5.heap[G]? = some (.cells (esC s2 A2 c2) 33 (0, 0)) := (hgrow.block _ (bs_lt hN.nxt) hne).trans hN.nxt
      have hG2 : w.heap.size + 2 ≤ G := Nat.le_trans hN.geB hN.geG
      refine hK.out _ _ hg5 (fun _ => ?_)
      try simp only [Act.put, List.setIfInBounds_toArray, List.set_cons_zero, List.set_cons_succ]
      obtain ⟨o3, ho3⟩ := sl_to lb3 (l.length + l2.length) cap3
      rw [ho3]
      have HO3 := hide ho3
      refine letter_ (fun W => LA w P s' A' c' lb3 cap3 (l ++ l2) (ds ++ ds2) s2 A2 c2 W ∧ Own W (w.heap.size + 2) 21 1 lr L cr (us.map (.int .i32)) ∧ W.heap[G]? = some (.cells (esC s2 A2 c2) 33 (0, 0))) ⟨hA, hR5, hg5⟩ ?_
      clear hA hR5 hg5 hown hgrow hat hrd hK hN hR hne hrl ho3 JC
      rintro W1 ⟨hA, hR, hg⟩
      refine wpAnyH_ready (rs := [4]) (by kernel_rfl) (by simp) ?_
      refine cons_ rfl (fun K hK => ?_) nil_
      have hme := hA.li.me
      unfold esC at hme
      obtain ⟨x0, x1, x2, x3, x4, x5, x6, x7, fz⟩ := cells8 hme
      go_simp
      refine hK.out _ _ ?_ (fun _ => ?_)
      · repeat (with_reducible apply bs_far; case hp => (dsimp only; omega))
        exact hg
      try simp only [Act.put, List.setIfInBounds_toArray, List.set_cons_zero, List.set_cons_succ]
      refine letter_ (fun W => LI w P s2 A2 c2 lb3 cap3 (l ++ l2) (ds ++ ds2) W ∧ Own W (w.heap.size + 2) 21 1 lr L cr (us.map (.int .i32)) ∧ W.heap[G]? = some (.cells (esC s2 A2 c2) 33 (0, 0))) ⟨hA.store, ?_, ?_⟩ ?_
      · repeat (with_reducible refine Own.far ?_ (fun k e => by subst e; have := (own_base hR).1; dsimp only; omega) _)
        exact hR
      · repeat (with_reducible apply bs_far; case hp => (dsimp only; omega))
        exact hg
      clear hA hR hg hK hme x0 x1 x2 x3 x4 x5 x6 x7 fz
      rintro W2 ⟨hLI, hR, hg⟩
      have JC := hide hg
      refine take_ (i := 5) (v := ?_) rfl (by kernel_rfl) (by kernel_rfl) (by kernel_rfl) (fun _ _ _ h => h) (Or.inl ⟨by rfl, ?_⟩) JC.out ?_
      rotate_left
      · (intro w5 hSw; skip; go_simp; try (with_reducible rfl))
      try simp only [Act.put, List.setIfInBounds_toArray, List.set_cons_zero, List.set_cons_succ]
      refine wpAnyH_done (by kernel_rfl) ?_ _
      go_wp2
      exact ⟨⟨j + 1, s2, A2, c2, lb3, cap3, l ++ l2, ds ++ ds2, by have := HJ.out; omega, by simp, by rw [List.length_append, HO3.out], hLI, hR, HSG.out, by rw [List.length_append]; have := HLL.out; omega⟩, by simp only [intOf]; have := HJ.out; omega⟩
    · have r1 : ((j : Int) < (L : Int)) = False := eq_false (by omega)
      have hd : us.drop j = [] := List.drop_eq_nil_of_le (by omega)
      rw [hd] at hsig
      have hs2 : signsP E us = (s', l) := by rw [hsig]; simp [signsP]
      have HS2 := hide hs2
      have hme := hLI.me
      unfold esC at hme
      obtain ⟨x0, x1, x2, x3, x4, x5, x6, x7, _⟩ := cells8 hme
      have hres := hLI.res
      unfold esZ at hres
      obtain ⟨y0, y1, y2, y3, y4, y5, y6, y7, fz⟩ := cells8 hres
      have HLI := hide hLI
      have hbe := hLI.be
      clear hd hsig hs2 hLI hRo hj hjl hlj hL
      go_wp2
      refine bodyPost_ret (results_ct rfl _ _ (w.heap.size + 1) 33 (esC s' A' c') (0, 0) _ rfl ?_ Try.underlying33 rfl (by kernel_rfl)) rfl ?_
      · unfold esC; (apply bs_eq; (case h => (repeat (first | (with_reducible assumption) | (with_reducible apply bs_same) | (with_reducible apply bs_far; case hp => (dsimp only; omega)) | (with_reducible apply bs_drew) | (with_reducible apply bs_drewN) | (with_reducible apply bs_new; (first | (with_reducible rfl) | (simp; done))) | (with_reducible apply bs_alloc) | (with_reducible apply bs_below; (case hb => with_reducible assumption); (case hB => first | omega | (simp; omega) | (simp; done)))))); (case e => rfl))
      · show OutG w P (signsP E us) _ _
        rw [HS2.out]
        refine ⟨A', c', lb, cap, ds, by dsimp only; rw [HOB.out]; rfl, HLI.out.lc, ?_, ?_, by (repeat (first | (with_reducible assumption) | with_reducible exact be_refl _ | (with_reducible refine be_set ?_ (by dsimp only; omega)) | (with_reducible apply be_drew) | (with_reducible apply be_drewN) | (with_reducible refine be_alloc ?_ (by first | omega | (simp; omega) | simp)) | (with_reducible refine be_call (by with_reducible assumption) (by first | omega | (simp; omega) | simp) ?_)))⟩
        · refine Kd.F_mono (ok := fun k => ((P k ∧ k < w.heap.size) ∨ w.heap.size + 2 ≤ k) ∧ some k ≠ lb) ?_ (fun k hk => ⟨hk.1.imp (fun h => h.1) (fun h => by omega), hk.2⟩)
          repeat (with_reducible refine Kd.F_far ?_ (fun k hk => by have := hk.1; dsimp only; omega) _)
          exact HLI.out.par
        · refine ActsL.lower (base := w.heap.size + 2) ?_ (by omega)
          repeat (with_reducible refine ActsL.far ?_ (by dsimp only; omega) _)
          exact HLI.out.acts
end Go.Proofs.Ytiahfgcfgpakiaa.EscaVal


