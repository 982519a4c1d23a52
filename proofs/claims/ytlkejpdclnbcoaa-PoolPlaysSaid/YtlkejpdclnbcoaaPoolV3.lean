/- Pools: what Read and Give do with frames of any rows: contracts, for every pool, without a condition of their own. -/
import Derived.Test.YtlkejpdclnbcoaaPoolV2
namespace Go.Proofs.Ytlkejpdclnbcoaa.PoolV
open Go Go.RowKit Go.Proofs.YtlkejpdclnbcoaaKit Go.Proofs.Ytlkejpdclnbcoaa.Mem Go.Proofs.YtlkejpdclnbcoaaW.PrintWords Go.Proofs.YtlkejpdclnbcoaaW.PrintLast Go.Proofs.Ytlkejpdclnbcoaa.Inn Go.Proofs.Ytlkejpdclnbcoaa.Split
open Go.Proofs.Ytlkejpdclnbcoaa.PoolBase (Fr far_setCells)
attribute [local go_sem] cell_alloc_some cell_alloc2_some cell_alloc3_some cell_alloc4_some
set_option linter.unusedVariables false
set_option linter.unusedSimpArgs false
set_option maxHeartbeats 8000000 in
set_option maxRecDepth 100000 in
theorem read_no (i gen : Int) (w W : World) (g pb : Nat) (bs : List Bf) (h : Pv w W g pb bs)
    (hc : (i < 0 ∨ (bs.length : Int) ≤ i) ∨ ∃ b, 0 ≤ i ∧ bs[i.toNat]? = some b ∧ (b.t = false ∨ b.gen ≠ gen)) :
    Calls Try.prog 11 #[.pointer (some ⟨g, 0, none⟩), .int .i64 i, .int .i64 gen] W fun e W' => e = .returned (.tuple #[frV 0 (.slice none 0 0), .bool false]) ∧ Pv w W' g pb bs ∧ Below W.heap.size W W' := by
  have hA : ∀ o, Pv w (W.alloc o) g pb bs := fun o => h.alloc o
  have H : ∀ o, Calls Try.prog 22 #[.pointer (some ⟨g, 0, none⟩), .int .i64 i] (W.alloc o) fun e W' => e = .returned (.bool (decide (0 ≤ i) && decide (i < bs.length))) ∧ W' = W.alloc o := fun o => has_v i w _ g pb bs (hA o)
  have G1 := bs_lt h.pool
  have G2 := bs_lt h.rows
  have HP := hide h
  unfold frV
  rcases hc with h1 | ⟨b, h0, hb, hb2⟩
  · have hd : (decide (0 ≤ i) && decide (i < bs.length)) = false := by simp; omega
    rw [hd] at H
    have H := hide H
    clear hd h hA
    go_enter Try.func11, Try.ntmps11
    go_wp2_with (go_at_call 22; with_reducible refine (H.out _).mono ?_; rintro e v ⟨rfl, hv⟩; subst v)
    refine bodyPost_ret (results_ct rfl _ _ W.heap.size 26 #[.int .i64 0, .int .i64 0, .slice none 0 0, .int .i64 0, .int .i64 0, .bool false] (0, 0) _ rfl ?_ Try.underlying26 rfl (by kernel_rfl)) rfl ?_
    · (apply bs_eq; (case h => (repeat (first | (with_reducible assumption) | (with_reducible apply bs_same) | (with_reducible apply bs_far; case hp => (dsimp only; omega)) | (with_reducible apply bs_drew) | (with_reducible apply bs_drewN) | (with_reducible apply bs_new; (first | (with_reducible rfl) | (simp; done))) | (with_reducible apply bs_alloc) | (with_reducible apply bs_below; (case hb => with_reducible assumption); (case hB => first | omega | (simp; omega) | (simp; done)))))); (case e => rfl))
    · exact ⟨rfl, HP.out.below_then (by (repeat (first | (with_reducible assumption) | with_reducible exact be_refl _ | (with_reducible refine be_set ?_ (by dsimp only; omega)) | (with_reducible apply be_drew) | (with_reducible apply be_drewN) | (with_reducible refine be_alloc ?_ (by first | omega | (simp; omega) | simp)) | (with_reducible refine be_call (by with_reducible assumption) (by first | omega | (simp; omega) | simp) ?_)))), by (repeat (first | (with_reducible assumption) | with_reducible exact be_refl _ | (with_reducible refine be_set ?_ (by dsimp only; omega)) | (with_reducible apply be_drew) | (with_reducible apply be_drewN) | (with_reducible refine be_alloc ?_ (by first | omega | (simp; omega) | simp)) | (with_reducible refine be_call (by with_reducible assumption) (by first | omega | (simp; omega) | simp) ?_)))⟩
  · have hl : i.toNat < bs.length := (List.getElem?_eq_some_iff.1 hb).1
    have hd : (decide (0 ≤ i) && decide (i < bs.length)) = true := by simp; omega
    rw [hd] at H
    have H := hide H
    have c0 := h.cell0
    obtain ⟨x0, x1, x2, x3, x4, x5, x6, x7⟩ := h.cells i.toNat b hb
    have h1 : i < (bs.length : Int) := by omega
    clear hd h hA hb
    have hcase : b.t = false ∨ (b.t = true ∧ b.gen ≠ gen) := by
      cases hq : b.t
      · exact .inl rfl
      · exact .inr ⟨rfl, hb2.resolve_left (by rw [hq]; decide)⟩
    clear hb2
    rcases hcase with q | ⟨q, q2⟩
    all_goals (
      rw [q] at x7
      go_enter Try.func11, Try.ntmps11
      go_wp2_with (go_at_call 22; with_reducible refine (H.out _).mono ?_; rintro e v ⟨rfl, hv⟩; subst v)
      refine bodyPost_ret (results_ct rfl _ _ W.heap.size 26 #[.int .i64 0, .int .i64 0, .slice none 0 0, .int .i64 0, .int .i64 0, .bool false] (0, 0) _ rfl ?_ Try.underlying26 rfl (by kernel_rfl)) rfl ?_
      · (apply bs_eq; (case h => (repeat (first | (with_reducible assumption) | (with_reducible apply bs_same) | (with_reducible apply bs_far; case hp => (dsimp only; omega)) | (with_reducible apply bs_drew) | (with_reducible apply bs_drewN) | (with_reducible apply bs_new; (first | (with_reducible rfl) | (simp; done))) | (with_reducible apply bs_alloc) | (with_reducible apply bs_below; (case hb => with_reducible assumption); (case hB => first | omega | (simp; omega) | (simp; done)))))); (case e => rfl))
      · exact ⟨rfl, HP.out.below_then (by (repeat (first | (with_reducible assumption) | with_reducible exact be_refl _ | (with_reducible refine be_set ?_ (by dsimp only; omega)) | (with_reducible apply be_drew) | (with_reducible apply be_drewN) | (with_reducible refine be_alloc ?_ (by first | omega | (simp; omega) | simp)) | (with_reducible refine be_call (by with_reducible assumption) (by first | omega | (simp; omega) | simp) ?_)))), by (repeat (first | (with_reducible assumption) | with_reducible exact be_refl _ | (with_reducible refine be_set ?_ (by dsimp only; omega)) | (with_reducible apply be_drew) | (with_reducible apply be_drewN) | (with_reducible refine be_alloc ?_ (by first | omega | (simp; omega) | simp)) | (with_reducible refine be_call (by with_reducible assumption) (by first | omega | (simp; omega) | simp) ?_)))⟩)
set_option maxHeartbeats 8000000 in
set_option maxRecDepth 100000 in
theorem read_yes (i gen : Int) (b : Bf) (w W : World) (g pb : Nat) (bs : List Bf) (h : Pv w W g pb bs) (h0 : 0 ≤ i) (hb : bs[i.toNat]? = some b) (q : b.t = true) (q2 : b.gen = gen) (hn : b.n ≤ 1000) (hrl : ∀ r ∈ b.rs, r.length ≤ 1000) :
    Calls Try.prog 11 #[.pointer (some ⟨g, 0, none⟩), .int .i64 i, .int .i64 gen] W fun e W' => ∃ (q : Option Addr) (k : Nat), e = .returned (.tuple #[frV b.w (.slice q b.n k), .bool true]) ∧ Pv w W' g pb bs ∧ RowsAt W' W.heap.size (.slice q b.n k) b.rs ∧ Below W.heap.size W W' := by
  have H : ∀ o, Calls Try.prog 22 #[.pointer (some ⟨g, 0, none⟩), .int .i64 i] (W.alloc o) fun e W' => e = .returned (.bool (decide (0 ≤ i) && decide (i < bs.length))) ∧ W' = W.alloc o := fun o => has_v i w _ g pb bs (h.alloc o)
  have G1 := bs_lt h.pool
  have G2 := bs_lt h.rows
  have HP := hide h
  have hl : i.toNat < bs.length := (List.getElem?_eq_some_iff.1 hb).1
  have hd : (decide (0 ≤ i) && decide (i < bs.length)) = true := by simp; omega
  rw [hd] at H
  have H := hide H
  have c0 := h.cell0
  obtain ⟨x0, x1, x2, x3, x4, x5, x6, x7⟩ := h.cells i.toNat b hb
  have h1 : i < (bs.length : Int) := by omega
  have hS : Hid (∀ o, Calls Try.prog 21 #[frV b.w (.slice b.q b.n b.c)] (W.alloc o) fun e w' => ∃ (q : Option Addr) (k : Nat), e = .returned (frV b.w (.slice q b.n k)) ∧ RowsAt w' (W.alloc o).heap.size (.slice q b.n k) b.rs ∧ Below (W.alloc o).heap.size (W.alloc o) w') := fun o => still_v b.w b.q b.n b.c b.rs _ ((h.cont b (List.mem_of_getElem? hb)).below (be_alloc (be_refl _) (Nat.le_refl _))) hn hrl
  clear hd h hb hn hrl
  rw [q] at x7
  subst q2
  obtain ⟨bw, bq, bn, bc, brs, bg, bt⟩ := b
  dsimp only at *
  unfold frV at *
  go_enter Try.func11, Try.ntmps11
  go_wp2_with (first
    | (go_at_call 22; with_reducible refine (H.out _).mono ?_; rintro e v ⟨rfl, hv⟩; subst v)
    | (go_at_call 21; with_reducible refine (hS.out _).mono ?_; rintro e v1 ⟨q1, k1, rfl, hr1, hb1⟩; have HR1 := hide hr1; clear hr1; obtain ⟨hc1, hf1⟩ := be_known hb1; have y1 := hb1.size; (try simp only [World.size_alloc] at y1)))
  refine bodyPost_ret (results_ct rfl _ _ W.heap.size 26 #[.int .i64 bw, .int .i64 0, .slice q1 bn k1, .int .i64 0, .int .i64 0, .bool false] (0, 0) _ rfl ?_ Try.underlying26 rfl (by kernel_rfl)) rfl ?_
  · (apply bs_eq; (case h => (repeat (first | (with_reducible assumption) | (with_reducible apply bs_same) | (with_reducible apply bs_far; case hp => (dsimp only; omega)) | (with_reducible apply bs_drew) | (with_reducible apply bs_drewN) | (with_reducible apply bs_new; (first | (with_reducible rfl) | (simp; done))) | (with_reducible apply bs_alloc) | (with_reducible apply bs_below; (case hb => with_reducible assumption); (case hB => first | omega | (simp; omega) | (simp; done)))))); (case e => rfl))
  · refine ⟨q1, k1, rfl, HP.out.below_then (by (repeat (first | (with_reducible assumption) | with_reducible exact be_refl _ | (with_reducible refine be_set ?_ (by dsimp only; omega)) | (with_reducible apply be_drew) | (with_reducible apply be_drewN) | (with_reducible refine be_alloc ?_ (by first | omega | (simp; omega) | simp)) | (with_reducible refine be_call (by with_reducible assumption) (by first | omega | (simp; omega) | simp) ?_)))), ?_, by (repeat (first | (with_reducible assumption) | with_reducible exact be_refl _ | (with_reducible refine be_set ?_ (by dsimp only; omega)) | (with_reducible apply be_drew) | (with_reducible apply be_drewN) | (with_reducible refine be_alloc ?_ (by first | omega | (simp; omega) | simp)) | (with_reducible refine be_call (by with_reducible assumption) (by first | omega | (simp; omega) | simp) ?_)))⟩
    refine (HR1.out.keep fun b hlo _ _ => ?_).lower (by simp)
    simp only [World.size_alloc] at hlo
    repeat rw [Below.heap_setCell _ _ _ _ (by dsimp only; omega)]
set_option maxHeartbeats 8000000 in
set_option maxRecDepth 100000 in
theorem give_yes (i : Int) (b : Bf) (w W : World) (g pb : Nat) (bs : List Bf) (h : Pv w W g pb bs) (h0 : 0 ≤ i) (hb : bs[i.toNat]? = some b) (q : b.t = true) :
    Calls Try.prog 13 #[.pointer (some ⟨g, 0, none⟩), .int .i64 i] W fun e W' => e = .returned (.bool true) ∧ Pv w W' g pb (bs.set i.toNat ⟨0, none, 0, 0, [], b.gen, false⟩) ∧ Fr pb W W' := by
  have H := has_v i w W g pb bs h
  have HP := hide h
  have hl : i.toNat < bs.length := (List.getElem?_eq_some_iff.1 hb).1
  have hd : (decide (0 ≤ i) && decide (i < bs.length)) = true := by simp; omega
  rw [hd] at H
  have H := hide H
  have c0 := h.cell0
  obtain ⟨x0, x1, x2, x3, x4, x5, x6, x7⟩ := h.cells i.toNat b hb
  have fz := fun j => bs_frozen h.rows j
  have h1 : i < (bs.length : Int) := by omega
  clear hd h
  rw [q] at x7
  have hb' := hide hb
  clear hb
  go_enter Try.func13, Try.ntmps13
  go_upto_region 3 with (go_at_call 22; with_reducible refine H.out.mono ?_; rintro e v ⟨rfl, hv⟩; subst v)
  go_still_tail 15, (by kernel_rfl)
  change wpList _ _ _ _ _ W.drew
  obtain ⟨W2, hW2⟩ : ∃ W2, W2 = W.drew := ⟨_, rfl⟩
  rw [← hW2]
  have hP2 : Pv w W2 g pb bs := hW2 ▸ HP.out.below_then (be_drew (be_refl _))
  have hs := hide (hP2.stored i.toNat ⟨0, none, 0, 0, [], b.gen, false⟩ hl (RowsAt.nil _ _))
  refine wpList_store_mid rfl 78 (.tmp 34) (.tmp 33) rfl pb (i.toNat * 8) #[.int .i64 0, .int .i64 0, .slice none 0 0, .int .i64 0, .int .i64 0, .bool false, .int .i64 b.gen, .bool false] rfl rfl (hP2.there i.toNat hl) (by kernel_rfl) (by simp [Value.oneCell']) ?_
  have hfr : Fr pb W (W2.setCells pb (i.toNat * 8) [.int .i64 0, .int .i64 0, .slice none 0 0, .int .i64 0, .int .i64 0, .bool false, .int .i64 b.gen, .bool false]) := fun k hk hne => (far_setCells pb _ _ _ k hne).trans (by rw [hW2]; rfl)
  have HFR := hide hfr
  clear hfr
  unfold bv at hs
  dsimp only at hs
  generalize W2.setCells _ _ _ = W3 at *
  clear hP2 hW2 c0 x0 x1 x2 x3 x4 x5 x6 x7 fz
  go_wp2
  go_ret
  exact ⟨rfl, hs.out, HFR.out⟩
theorem give_no (i : Int) (w W : World) (g pb : Nat) (bs : List Bf) (h : Pv w W g pb bs) (hc : (i < 0 ∨ (bs.length : Int) ≤ i) ∨ ∃ b, 0 ≤ i ∧ bs[i.toNat]? = some b ∧ b.t = false) :
    Calls Try.prog 13 #[.pointer (some ⟨g, 0, none⟩), .int .i64 i] W fun e W' => e = .returned (.bool false) ∧ W' = W := by
  have H := has_v i w W g pb bs h
  rcases hc with h1 | ⟨b, h0, hb, q⟩
  · have hd : (decide (0 ≤ i) && decide (i < bs.length)) = false := by simp; omega
    rw [hd] at H
    have H := hide H
    clear hd h
    go_enter Try.func13, Try.ntmps13
    go_wp2_with (go_at_call 22; with_reducible refine H.out.mono ?_; rintro e v ⟨rfl, hv⟩; subst v)
    go_ret
    exact ⟨rfl, rfl⟩
  · have hl : i.toNat < bs.length := (List.getElem?_eq_some_iff.1 hb).1
    have hd : (decide (0 ≤ i) && decide (i < bs.length)) = true := by simp; omega
    rw [hd] at H
    have H := hide H
    have c0 := h.cell0
    obtain ⟨x0, x1, x2, x3, x4, x5, x6, x7⟩ := h.cells i.toNat b hb
    have h1 : i < (bs.length : Int) := by omega
    clear hd h hb
    rw [q] at x7
    go_enter Try.func13, Try.ntmps13
    go_wp2_with (go_at_call 22; with_reducible refine H.out.mono ?_; rintro e v ⟨rfl, hv⟩; subst v)
    go_ret
    exact ⟨rfl, rfl⟩
end Go.Proofs.Ytlkejpdclnbcoaa.PoolV


