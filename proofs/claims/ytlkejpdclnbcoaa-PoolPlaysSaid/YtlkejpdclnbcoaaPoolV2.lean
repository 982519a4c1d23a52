/- Pools: what Still, Take, Read and Give do with frames of any rows: contracts, for every pool, without a condition of their own. -/
import Derived.Test.YtlkejpdclnbcoaaPoolV
namespace Go.Proofs.Ytlkejpdclnbcoaa.PoolV
open Go Go.RowKit Go.Proofs.YtlkejpdclnbcoaaKit Go.Proofs.Ytlkejpdclnbcoaa.Mem Go.Proofs.YtlkejpdclnbcoaaW.PrintWords Go.Proofs.YtlkejpdclnbcoaaW.PrintLast Go.Proofs.Ytlkejpdclnbcoaa.Inn Go.Proofs.Ytlkejpdclnbcoaa.Split Go.Proofs.Ytlkejpdclnbcoaa.RowsBase
open Go.Proofs.Ytlkejpdclnbcoaa.PoolBase (Fr far_setCells)
attribute [local go_sem] cell_alloc_some cell_alloc2_some cell_alloc3_some cell_alloc4_some
set_option linter.unusedVariables false
set_option linter.unusedSimpArgs false
theorem grown_keep {W W' : World} {row : Option Nat} {b : Nat} {cs : Array Value} {t : TypeId} {fr : Nat × Nat} (h : W.heap[b]? = some (.cells cs t fr)) (hg : W.grownBy W' row) (hne : ∀ x, row = some x → x ≠ b) : W'.heap[b]? = some (.cells cs t fr) :=
  (hg.block b (bs_lt h) (fun e => hne b e.symm rfl)).trans h
/-- The row of rows is no frame. -/
theorem row_ne {W : World} {base : Nat} {lb : Option Nat} {n cap : Nat} {vs : List Value} {b : Nat} {cs : Array Value} (h : OwnR W base lb n cap vs) (hb : W.heap[b]? = some (.cells cs 26 (0, 0))) : ∀ x, lb = some x → x ≠ b := fun x e e2 => by
  subst e e2
  obtain ⟨c2, h2⟩ := own_type h
  rw [h2] at hb
  injection hb with e1
  injection e1 with _ e2
  revert e2; decide
set_option maxHeartbeats 8000000 in
set_option maxRecDepth 100000 in
theorem still_v (a : Int) (oa : Option Addr) (n c : Nat) (rs : List R) (w : World) (h : RowsAt w 0 (.slice oa n c) rs) (hl : n ≤ 1000) (hrl : ∀ r ∈ rs, r.length ≤ 1000) :
    Calls Try.prog 21 #[frV a (.slice oa n c)] w fun e w' => ∃ (q : Option Addr) (k : Nat), e = .returned (frV a (.slice q n k)) ∧ RowsAt w' w.heap.size (.slice q n k) rs ∧ Below w.heap.size w w' := by
  obtain ⟨lb0, cap0, vs, hv, hR, hI⟩ := h
  obtain ⟨i0, hi0, hz0, hz1, hz2⟩ := info_parts rowInfo
  have hn : rs.length = n := by unfold sl at hv; injection hv with _ h2 _; exact h2.symm
  have hoa : oa = lb0.map fun b => ⟨b, 0, none⟩ := by unfold sl at hv; injection hv
  have HR := hide (show Rd w 0 oa vs by rw [hoa]; exact Rd.of hR)
  have HI := hide hI
  have HN := hide hn
  have HRL := hide hrl
  obtain ⟨S0, hS⟩ : ∃ S0, S0 = w.heap.size := ⟨_, rfl⟩
  have HS := hide hS
  clear hR hI hn hrl hv hoa
  unfold frV
  go_enter Try.func21, Try.ntmps21
  go_wp2
  rw [← hS]
  clear hS
  go_loopw [3, 9] (fun v3 v9 wr => ∃ (j : Nat) (lb : Option Nat) (cap : Nat) (us : List Value), j ≤ n ∧ v9 = .int .i64 (j : Int) ∧ v3 = sl lb j cap ∧ OwnR wr S0 lb j cap us ∧ Inn wr S0 us (rs.take j) ∧ wr.heap[S0]? = some (.cells #[.int .i64 a, .int .i64 0, .slice oa n c, .int .i64 0, .int .i64 0, .bool false] 26 (0, 0)) ∧ wr.heap[S0 + 1]? = some (.cells #[.int .i64 0, .int .i64 0, .slice none 0 0, .int .i64 0, .int .i64 0, .bool false] 26 (0, 0)) ∧ Below S0 w wr) (fun _ v9 _ => (n - intOf v9).toNat)
  case atStart =>
    refine ⟨0, none, 0, [], Nat.zero_le _, rfl, rfl, Own.nil _ _ _ _, Inn.nil _ _, ?_, ?_, ?_⟩
    · rw [HS.out]; exact bs_alloc (bs_new rfl)
    · rw [HS.out]; exact bs_new (by simp)
    · rw [HS.out]; exact be_alloc (be_alloc (be_refl _) (Nat.le_refl _)) (by simp)
  case round =>
    obtain ⟨j, lb, cap, us, hj, rfl, rfl, hO, hI, hF0, hF1, hB⟩ := hrel
    have O1 := hide hO
    have I1 := hide hI
    have B1 := hide hB
    have F0 := hide hF0
    have F1 := hide hF1
    by_cases hlt : j < n
    · have p1 : ((j : Int) < (n : Int)) = True := eq_true (by omega)
      have p0 : (0 : Int) ≤ (j : Int) := by omega
      have p2 : (j : Int) < (n : Int) := by omega
      obtain ⟨r, hr⟩ : ∃ r, rs[j]? = some r := ⟨_, List.getElem?_eq_getElem (by have := HN.out; omega)⟩
      obtain ⟨rb, rk, hv, hrk, hro⟩ := HI.out.at_ j r hr
      have hB0 : Below w.heap.size w wr := by rw [← HS.out]; exact hB
      obtain ⟨ad, e, _, x0⟩ := (HR.out.below hB0) j _ hv
      subst e
      have RO := hide (show RdC wr 0 (rb.map fun b => ⟨b, 0, none⟩) r from (Rd.of (hro.below hB0)).lower (Nat.zero_le _))
      have RL := hide (HRL.out r (List.mem_of_getElem? hr))
      have TK := hide (show rs.take (j + 1) = rs.take j ++ [r] by rw [List.take_add_one, hr]; rfl)
      obtain ⟨ra, hra⟩ : ∃ ra : Option Addr, ra = rb.map fun b => ⟨b, 0, none⟩ := ⟨_, rfl⟩
      rw [show sl rb r.length rk = .slice ra r.length rk by rw [hra]; rfl] at x0
      rw [← hra] at RO
      have HJ := hide hlt
      obtain ⟨m, hm⟩ : ∃ m, m = r.length := ⟨_, rfl⟩
      rw [← hm] at x0
      have HM := hide hm
      clear hr hv hrk hro hB0 hra hO hI hB hj hlt hm hF0 hF1
      go_wp2_with (first
        | (go_at_call 29; (with_reducible refine (clone_calls wr ra m rk r HM.out.symm RO.out (by have := RL.out; have := HM.out; omega)).mono ?_); rintro e W2 ⟨lb2, k2, rfl, hO2, hB2⟩; rw [HM.out] at hO2; have N2 := hide (Inn.one (hO2.lower (base' := S0) (by rw [HS.out]; exact B1.out.size))); have B2 := hide (be_call hB2 (by rw [HS.out]; exact B1.out.size) B1.out); have O2 := hide (O1.out.below hB2); have I2 := hide (I1.out.below hB2); have G0 := hide (bs_below hB2 (bs_lt F0.out) F0.out); have G1 := hide (bs_below hB2 (bs_lt F1.out) F1.out); obtain ⟨q2, hq2⟩ := sl_to lb2 m k2; rw [hq2]; have HQ2 := hide hq2; clear hO2 hB2 hq2)
        | (at_builtin; refine wpList_append_rd _ rfl (.tmp 13) (.tmp 16) 24 rfl S0 47 i0 _ 1 24 Try.underlying24 hi0 hz0 hz1 hz2 rfl (by omega) lb j cap us rfl (O2.out.alloc _) (some ⟨W2.heap.size, 0, none⟩) 1 1 [.slice q2 m k2] rfl rfl (rd_vals (bs_new rfl)) (fun u hu => by rw [List.mem_singleton.1 hu]; rfl) (by have := HJ.out; unfold maxLen; omega) (by have := HJ.out; omega) (by have := B2.out.size; have := HS.out; simp; omega) ?_; intro lb3 cap3 W3 hO3 hg3 hat3; have O3 := hide hO3; have G3 := hide hg3; clear hO3 hg3 hat3))
      have hbl : ∀ b, lb = some b → S0 ≤ b := fun b e => by subst e; exact (own_base O2.out).1
      have I3 := (I2.out.below (be_alloc (be_refl W2) (Nat.le_refl _))).grown G3.out (ne_cell (O2.out.alloc _))
      have N3 := (N2.out.below (be_alloc (be_refl W2) (Nat.le_refl _))).grown G3.out (ne_cell (O2.out.alloc _))
      have O4 := O2.out.alloc (.cells #[.slice q2 m k2] 47)
      have h0 : (W2.alloc (.cells #[.slice q2 m k2] 47)).heap[S0]? = some (.cells #[.int .i64 a, .int .i64 0, .slice (some ad) n c, .int .i64 0, .int .i64 0, .bool false] 26 (0, 0)) := bs_alloc G0.out
      have h1 : (W2.alloc (.cells #[.slice q2 m k2] 47)).heap[S0 + 1]? = some (.cells #[.int .i64 0, .int .i64 0, .slice none 0 0, .int .i64 0, .int .i64 0, .bool false] 26 (0, 0)) := bs_alloc G1.out
      refine ⟨⟨j + 1, lb3, cap3, _, by have := HJ.out; omega, by simp, rfl, O3.out, by rw [← HM.out, HQ2.out] at N3; rw [TK.out]; exact I3.append N3, grown_keep h0 G3.out (row_ne O4 h0), grown_keep h1 G3.out (row_ne O4 h1), below_grown (be_alloc B2.out (by rw [HS.out]; exact B2.out.size)) (by have := B2.out.size; have := HS.out; simp; omega) G3.out hbl⟩, ?_⟩
      simp only [intOf]; have := HJ.out; omega
    · have p1 : ((j : Int) < (n : Int)) = False := eq_false (by omega)
      have hjn : j = n := by omega
      subst hjn
      have ht : rs.take j = rs := by rw [← HN.out, List.take_length]
      rw [ht] at I1
      obtain ⟨q, hq⟩ := sl_to lb j cap
      rw [hq]
      have HQ := hide hq
      obtain ⟨x0, x1, x2, x3, x4, x5, xf⟩ := cells6 hF0
      obtain ⟨y0, y1, y2, y3, y4, y5, yf⟩ := cells6 hF1
      clear hO hI hB hj hlt ht hq
      go_wp2
      refine bodyPost_ret (results_cell_row rfl _ _ (S0 + 1) 26 #[.int .i64 a, .int .i64 0, .slice q j cap, .int .i64 0, .int .i64 0, .bool false] (0, 0) _ rfl ?_ Try.underlying26 rfl (by kernel_rfl)) rfl ?_
      · clear F0 F1; (apply bs_eq; (case h => (repeat (first | (with_reducible assumption) | (with_reducible apply bs_same) | (with_reducible apply bs_far; case hp => (dsimp only; omega)) | (with_reducible apply bs_drew) | (with_reducible apply bs_drewN) | (with_reducible apply bs_new; (first | (with_reducible rfl) | (simp; done))) | (with_reducible apply bs_alloc) | (with_reducible apply bs_below; (case hb => with_reducible assumption); (case hB => first | omega | (simp; omega) | (simp; done)))))); (case e => rfl))
      · refine ⟨q, cap, rfl, ?_, ?_⟩
        · have hR : RowsAt wr S0 (.slice q j cap) rs := ⟨lb, cap, us, by rw [HN.out]; exact HQ.out.symm, by rw [HN.out]; exact O1.out, I1.out⟩
          rw [← HS.out]
          refine hR.keep fun b _ hlt ⟨cur, hc⟩ => ?_
          have n0 : b ≠ S0 := fun e => by
            subst e
            rcases hc with hc | hc <;> rw [F0.out] at hc <;> injection hc with e1 <;> injection e1 with _ e2 <;> revert e2 <;> decide
          have n1 : b ≠ S0 + 1 := fun e => by
            subst e
            rcases hc with hc | hc <;> rw [F1.out] at hc <;> injection hc with e1 <;> injection e1 with _ e2 <;> revert e2 <;> decide
          repeat rw [Below.heap_setCell _ _ _ _ (by first | exact n0 | exact n1)]
        · have hB := B1.out
          rw [← HS.out]
          repeat (refine be_set ?_ (by dsimp only; omega))
          exact hB
end Go.Proofs.Ytlkejpdclnbcoaa.PoolV


