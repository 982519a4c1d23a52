/- Pools: what Take does with a frame of any rows: contracts, for every pool. -/
import Derived.Test.YtlkejpdclnbcoaaPoolV3
namespace Go.Proofs.Ytlkejpdclnbcoaa.PoolV
open Go Go.RowKit Go.Proofs.YtlkejpdclnbcoaaKit Go.Proofs.Ytlkejpdclnbcoaa.Mem Go.Proofs.YtlkejpdclnbcoaaW.PrintWords Go.Proofs.YtlkejpdclnbcoaaW.PrintLast Go.Proofs.Ytlkejpdclnbcoaa.Inn Go.Proofs.Ytlkejpdclnbcoaa.Split
open Go.Proofs.Ytlkejpdclnbcoaa.PoolBase (Fr far_setCells)
attribute [local go_sem] cell_alloc_some cell_alloc2_some cell_alloc3_some cell_alloc4_some
set_option linter.unusedVariables false
set_option linter.unusedSimpArgs false
def Kp (W : World) (lb : Option Nat) (w2 : World) : Prop := (∀ k, k < W.heap.size → some k ≠ lb → w2.heap[k]? = W.heap[k]?) ∧ W.heap.size ≤ w2.heap.size
theorem Kp.of_below {W w2 : World} {lb : Option Nat} (h : Below W.heap.size W w2) : Kp W lb w2 := ⟨fun k hk _ => h.block k hk, h.size⟩
theorem Kp.cell {W w2 : World} {lb : Option Nat} (h : Kp W lb w2) {p : Addr} (hp : p.block < W.heap.size) (hn : some p.block ≠ lb) : w2.cell? p = W.cell? p := World.cell?_of_block (h.1 p.block hp hn)
theorem size_setCells (b : Nat) (vs : List Value) : ∀ (o : Nat) (w : World), (w.setCells b o vs).heap.size = w.heap.size := by
  induction vs with
  | nil => intro o w; rfl
  | cons v vs ih => intro o w; exact (ih (o + 1) (w.setCell ⟨b, o, none⟩ v)).trans (by simp)
theorem Kp.setCells {W w2 : World} {pb : Nat} (h : Kp W (some pb) w2) (o : Nat) (vs : List Value) : Kp W (some pb) (w2.setCells pb o vs) :=
  ⟨fun k hk hn => (far_setCells pb vs o w2 k (fun e => hn (by rw [e]))).trans (h.1 k hk hn), by rw [size_setCells]; exact h.2⟩
set_option maxHeartbeats 8000000 in
set_option maxRecDepth 100000 in
theorem take_yes (a : Int) (oa : Option Addr) (n c : Nat) (rs : List R) (k : Nat) (b : Bf) (w W : World) (g pb : Nat) (bs : List Bf) (h : Pv w W g pb bs) (hk : bs[k]? = some b) (hbt : b.t = false) (hpre : ∀ j, j < k → ∃ b, bs[j]? = some b ∧ b.t = true) (hg : 0 ≤ b.gen ∧ b.gen ≤ 1000) (hk2 : k ≤ 1000)
    (hr : RowsAt W 0 (.slice oa n c) rs) (hl : n ≤ 1000) (hrl : ∀ r ∈ rs, r.length ≤ 1000) :
    Calls Try.prog 10 #[.pointer (some ⟨g, 0, none⟩), frV a (.slice oa n c)] W fun e W' => ∃ (q : Option Addr) (c' : Nat), e = .returned (.tuple #[.int .i64 (k : Int), .int .i64 (b.gen + 1), .bool true]) ∧ Pv w W' g pb (bs.set k ⟨a, q, n, c', rs, b.gen + 1, true⟩) ∧ Fr pb W W' := by
  have c0 := h.cell0
  have hwr : wrap64 (b.gen + 1) = b.gen + 1 := by unfold wrap64; omega
  have hw2 : IntKind.i64.wrap (b.gen + 1) = b.gen + 1 := by rw [IntKind.wrap_i64]; omega
  have hS : Hid (∀ W', Below W.heap.size W W' → Calls Try.prog 21 #[frV a (.slice oa n c)] W' fun e w' => ∃ (q : Option Addr) (k : Nat), e = .returned (frV a (.slice q n k)) ∧ RowsAt w' W'.heap.size (.slice q n k) rs ∧ Below W'.heap.size W' w') := fun W' hb => still_v a oa n c rs W' (hr.below hb) hl hrl
  have HP := hide h
  have HW2 := hide hw2
  have HK := hide hk
  have HPRE := hide hpre
  have hkl : k < bs.length := (List.getElem?_eq_some_iff.1 hk).1
  have HKL := hide hkl
  obtain ⟨N, hN⟩ : ∃ N, N = bs.length := ⟨_, rfl⟩
  rw [← hN] at c0 hkl
  have HNN := hide hN
  clear h hg hk hpre hN hw2 hr hrl
  have HWR := hide hwr
  clear hwr
  unfold frV at *
  go_enter Try.func10, Try.ntmps10
  go_wp2
  go_loopw [14] (fun v14 wr => ∃ i : Nat, i ≤ k ∧ v14 = .int .i64 (i : Int) ∧ Pv w wr g pb bs ∧ wr.heap[W.heap.size]? = some (.cells #[.int .i64 a, .int .i64 0, .slice oa n c, .int .i64 0, .int .i64 0, .bool false] 26 (0, 0)) ∧ Below W.heap.size W wr) (fun v14 _ => k - (intOf v14).toNat)
  case atStart => exact ⟨0, Nat.zero_le _, rfl, HP.out.alloc _, bs_new rfl, be_alloc (be_refl _) (Nat.le_refl _)⟩
  case round =>
    obtain ⟨i, hi, rfl, hP, hF, hB⟩ := hrel
    have B1 := hide hB
    clear hB
    clear c0
    have c0 := hP.cell0
    rw [← HNN.out] at c0
    have hPw := hP
    have P1 := hide hP
    have F1 := hide hF
    obtain ⟨f0, f1, f2, f3, f4, f5, ff⟩ := cells6 hF
    clear hP hF
    have p0 : (0 : Int) ≤ (i : Int) := by omega
    have p1 : ((i : Int) < (N : Int)) = True := eq_true (by omega)
    by_cases hik : i < k
    · obtain ⟨b', hb, hb2⟩ := HPRE.out i hik
      obtain ⟨x0, x1, x2, x3, x4, x5, x6, x7⟩ := hPw.cells i b' hb
      rw [hb2] at x7
      clear hPw
      go_wp2
      refine ⟨⟨i + 1, by omega, by simp, P1.out.alloc _, bs_alloc F1.out, be_alloc B1.out B1.out.size⟩, ?_⟩
      simp only [intOf]; omega
    · have hik2 : i = k := by omega
      subst hik2
      obtain ⟨x0, x1, x2, x3, x4, x5, x6, x7⟩ := hPw.cells i _ HK.out
      rw [hbt] at x7
      clear hPw
      go_upto_region 5 with fail
      refine wp_letter (fun M => Pv w M g pb bs ∧ M.heap[W.heap.size]? = some (.cells #[.int .i64 a, .int .i64 0, .slice oa n c, .int .i64 0, .int .i64 0, .bool false] 26 (0, 0)) ∧ M.heap[wr.heap.size]? = some (.cells #[.int .i64 b.w, .int .i64 0, .slice b.q b.n b.c, .int .i64 0, .int .i64 0, .bool false, .int .i64 b.gen, .bool false] 78 (0, 0)) ∧ Below wr.heap.size wr M) ⟨?_, ?_, ?_, ?_⟩ ?_
      · exact P1.out.below_then (by have h9 := be_refl wr; (repeat (first | (with_reducible assumption) | with_reducible exact be_refl _ | (with_reducible refine be_set ?_ (by dsimp only; omega)) | (with_reducible apply be_drew) | (with_reducible apply be_drewN) | (with_reducible refine be_alloc ?_ (by first | omega | (simp; omega) | simp)) | (with_reducible refine be_call (by with_reducible assumption) (by first | omega | (simp; omega) | simp) ?_))))
      · have h9 := F1.out; have h8 := bs_lt h9; clear F1; (repeat (first | (with_reducible assumption) | (with_reducible apply bs_same) | (with_reducible apply bs_far; case hp => (dsimp only; omega)) | (with_reducible apply bs_drew) | (with_reducible apply bs_drewN) | (with_reducible apply bs_new; (first | (with_reducible rfl) | (simp; done))) | (with_reducible apply bs_alloc) | (with_reducible apply bs_below; (case hb => with_reducible assumption); (case hB => first | omega | (simp; omega) | (simp; done)))))
      · clear F1; (apply bs_eq; (case h => (repeat (first | (with_reducible assumption) | (with_reducible apply bs_same) | (with_reducible apply bs_far; case hp => (dsimp only; omega)) | (with_reducible apply bs_drew) | (with_reducible apply bs_drewN) | (with_reducible apply bs_new; (first | (with_reducible rfl) | (simp; done))) | (with_reducible apply bs_alloc) | (with_reducible apply bs_below; (case hb => with_reducible assumption); (case hB => first | omega | (simp; omega) | (simp; done)))))); (case e => rfl))
      · have h9 := be_refl wr; (repeat (first | (with_reducible assumption) | with_reducible exact be_refl _ | (with_reducible refine be_set ?_ (by dsimp only; omega)) | (with_reducible apply be_drew) | (with_reducible apply be_drewN) | (with_reducible refine be_alloc ?_ (by first | omega | (simp; omega) | simp)) | (with_reducible refine be_call (by with_reducible assumption) (by first | omega | (simp; omega) | simp) ?_)))
      obtain ⟨A, hA⟩ : ∃ A, A = W.heap.size := ⟨_, rfl⟩
      obtain ⟨B, hBq⟩ : ∃ B, B = wr.heap.size := ⟨_, rfl⟩
      rw [← hA, ← hBq]
      have HA := hide hA
      have HBB := hide hBq
      have hwrs := B1.out.size
      have hpw : pb < wr.heap.size := bs_lt P1.out.rows
      clear x0 x1 x2 x3 x4 x5 x6 x7 c0 f0 f1 f2 f3 f4 f5 ff F1
      rintro M ⟨hP, hF, hG, hBM⟩
      have P2 := hide hP
      have c0 := hP.cell0
      rw [← HNN.out] at c0
      have hgs := bs_lt hP.pool
      have hAs := bs_lt hF
      have hBs := bs_lt hG
      obtain ⟨f0, f1, f2, f3, f4, f5, ff⟩ := cells6 hF
      obtain ⟨y0, y1, y2, y3, y4, y5, y6, y7, yf⟩ := cells8 hG
      have HG := hide hG
      have BM := hide (show Below W.heap.size W M from be_call (by rw [← HBB.out]; exact hBM) B1.out.size B1.out)
      rw [← hBq] at hpw
      rw [← hBq, ← hA] at hwrs
      have hMs : B ≤ M.heap.size := by rw [hBq]; exact hBM.size
      clear hP hF hG hBM hA hBq
      have hgp : some g ≠ some pb := fun e => P2.out.ne (by injection e)
      have hAp : some A ≠ some pb := fun e => by injection e with e; have := HA.out; have := bs_lt HP.out.rows; omega
      have hBp : some B ≠ some pb := fun e => by injection e with e; omega
      refine wp_region_held (S := Kp M (some pb)) (by kernel_rfl) ?_
      have JD0 := hide (show Below M.heap.size M M.drew from be_drew (be_refl _))
      have JC0 := hide (Kp.of_below (lb := some pb) JD0.out)
      change wpAnyH _ _ _ _ _ _ _ _ M.drew
      refine take_ (i := 0) (v := ?_) rfl (by kernel_rfl) (by kernel_rfl) (by kernel_rfl) (fun _ _ _ h => h) (Or.inl ⟨by rfl, ?_⟩) JC0.out ?_
      rotate_left
      · (intro w5 hSw; have k0 := (hSw.cell (p := ⟨g, 0, none⟩) hgs hgp).trans c0; have e0 := (hSw.cell (p := ⟨A, 0, none⟩) hAs hAp).trans f0; have e1 := (hSw.cell (p := ⟨A, 1, none⟩) hAs hAp).trans f1; have e2 := (hSw.cell (p := ⟨A, 2, none⟩) hAs hAp).trans f2; have e3 := (hSw.cell (p := ⟨A, 3, none⟩) hAs hAp).trans f3; have e4 := (hSw.cell (p := ⟨A, 4, none⟩) hAs hAp).trans f4; have e5 := (hSw.cell (p := ⟨A, 5, none⟩) hAs hAp).trans f5; go_simp; try (with_reducible rfl))
      try simp only [Act.put, List.setIfInBounds_toArray, List.set_cons_zero, List.set_cons_succ]
      refine take_ (i := 1) (v := ?_) rfl (by kernel_rfl) (by kernel_rfl) (by kernel_rfl) (fun _ _ _ h => h) (Or.inl ⟨by rfl, ?_⟩) JC0.out ?_
      rotate_left
      · (intro w5 hSw; have k0 := (hSw.cell (p := ⟨g, 0, none⟩) hgs hgp).trans c0; have e0 := (hSw.cell (p := ⟨A, 0, none⟩) hAs hAp).trans f0; have e1 := (hSw.cell (p := ⟨A, 1, none⟩) hAs hAp).trans f1; have e2 := (hSw.cell (p := ⟨A, 2, none⟩) hAs hAp).trans f2; have e3 := (hSw.cell (p := ⟨A, 3, none⟩) hAs hAp).trans f3; have e4 := (hSw.cell (p := ⟨A, 4, none⟩) hAs hAp).trans f4; have e5 := (hSw.cell (p := ⟨A, 5, none⟩) hAs hAp).trans f5; go_simp; try (with_reducible rfl))
      try simp only [Act.put, List.setIfInBounds_toArray, List.set_cons_zero, List.set_cons_succ]
      refine take_ (i := 2) (v := ?_) rfl (by kernel_rfl) (by kernel_rfl) (by kernel_rfl) (fun _ _ _ h => h) (Or.inl ⟨by rfl, ?_⟩) JC0.out ?_
      rotate_left
      · (intro w5 hSw; have k0 := (hSw.cell (p := ⟨g, 0, none⟩) hgs hgp).trans c0; have e0 := (hSw.cell (p := ⟨A, 0, none⟩) hAs hAp).trans f0; have e1 := (hSw.cell (p := ⟨A, 1, none⟩) hAs hAp).trans f1; have e2 := (hSw.cell (p := ⟨A, 2, none⟩) hAs hAp).trans f2; have e3 := (hSw.cell (p := ⟨A, 3, none⟩) hAs hAp).trans f3; have e4 := (hSw.cell (p := ⟨A, 4, none⟩) hAs hAp).trans f4; have e5 := (hSw.cell (p := ⟨A, 5, none⟩) hAs hAp).trans f5; go_simp; try (with_reducible rfl))
      try simp only [Act.put, List.setIfInBounds_toArray, List.set_cons_zero, List.set_cons_succ]
      refine take_ (i := 3) (v := ?_) rfl (by kernel_rfl) (by kernel_rfl) (by kernel_rfl) (fun _ _ _ h => h) (Or.inl ⟨by rfl, ?_⟩) JC0.out ?_
      rotate_left
      · (intro w5 hSw; have k0 := (hSw.cell (p := ⟨g, 0, none⟩) hgs hgp).trans c0; have e0 := (hSw.cell (p := ⟨A, 0, none⟩) hAs hAp).trans f0; have e1 := (hSw.cell (p := ⟨A, 1, none⟩) hAs hAp).trans f1; have e2 := (hSw.cell (p := ⟨A, 2, none⟩) hAs hAp).trans f2; have e3 := (hSw.cell (p := ⟨A, 3, none⟩) hAs hAp).trans f3; have e4 := (hSw.cell (p := ⟨A, 4, none⟩) hAs hAp).trans f4; have e5 := (hSw.cell (p := ⟨A, 5, none⟩) hAs hAp).trans f5; go_simp; try (with_reducible rfl))
      try simp only [Act.put, List.setIfInBounds_toArray, List.set_cons_zero, List.set_cons_succ]
      refine take_ (i := 4) (v := ?_) rfl (by kernel_rfl) (by kernel_rfl) (by kernel_rfl) (fun _ _ _ h => h) (Or.inl ⟨by rfl, ?_⟩) JC0.out ?_
      rotate_left
      · (intro w5 hSw; have k0 := (hSw.cell (p := ⟨g, 0, none⟩) hgs hgp).trans c0; have e0 := (hSw.cell (p := ⟨A, 0, none⟩) hAs hAp).trans f0; have e1 := (hSw.cell (p := ⟨A, 1, none⟩) hAs hAp).trans f1; have e2 := (hSw.cell (p := ⟨A, 2, none⟩) hAs hAp).trans f2; have e3 := (hSw.cell (p := ⟨A, 3, none⟩) hAs hAp).trans f3; have e4 := (hSw.cell (p := ⟨A, 4, none⟩) hAs hAp).trans f4; have e5 := (hSw.cell (p := ⟨A, 5, none⟩) hAs hAp).trans f5; go_simp; try (with_reducible rfl))
      try simp only [Act.put, List.setIfInBounds_toArray, List.set_cons_zero, List.set_cons_succ]
      refine take_ (i := 5) (v := ?_) rfl (by kernel_rfl) (by kernel_rfl) (by kernel_rfl) (fun _ _ _ h => h) (Or.inl ⟨by rfl, ?_⟩) JC0.out ?_
      rotate_left
      · (intro w5 hSw; have k0 := (hSw.cell (p := ⟨g, 0, none⟩) hgs hgp).trans c0; have e0 := (hSw.cell (p := ⟨A, 0, none⟩) hAs hAp).trans f0; have e1 := (hSw.cell (p := ⟨A, 1, none⟩) hAs hAp).trans f1; have e2 := (hSw.cell (p := ⟨A, 2, none⟩) hAs hAp).trans f2; have e3 := (hSw.cell (p := ⟨A, 3, none⟩) hAs hAp).trans f3; have e4 := (hSw.cell (p := ⟨A, 4, none⟩) hAs hAp).trans f4; have e5 := (hSw.cell (p := ⟨A, 5, none⟩) hAs hAp).trans f5; go_simp; try (with_reducible rfl))
      try simp only [Act.put, List.setIfInBounds_toArray, List.set_cons_zero, List.set_cons_succ]
      refine take_ (i := 7) (v := ?_) rfl (by kernel_rfl) (by kernel_rfl) (by kernel_rfl) (fun _ _ _ h => h) (Or.inl ⟨by rfl, ?_⟩) JC0.out ?_
      rotate_left
      · (intro w5 hSw; have k6 := (hSw.cell (p := ⟨B, 6, none⟩) hBs hBp).trans y6; go_simp; try (with_reducible rfl))
      try simp only [Act.put, List.setIfInBounds_toArray, List.set_cons_zero, List.set_cons_succ]
      refine take_ (i := 8) (v := ?_) rfl (by kernel_rfl) (by kernel_rfl) (by kernel_rfl) (fun _ _ _ h => h) (Or.inl ⟨by rfl, ?_⟩) JC0.out ?_
      rotate_left
      · (intro w5 hSw; have k6 := (hSw.cell (p := ⟨B, 6, none⟩) hBs hBp).trans y6; go_simp; try (with_reducible rfl))
      try simp only [Act.put, List.setIfInBounds_toArray, List.set_cons_zero, List.set_cons_succ]
      refine take_ (i := 9) (v := ?_) rfl (by kernel_rfl) (by kernel_rfl) (by kernel_rfl) (fun _ _ _ h => h) (Or.inl ⟨by rfl, ?_⟩) JC0.out ?_
      rotate_left
      · (intro w5 hSw; have k6 := (hSw.cell (p := ⟨B, 6, none⟩) hBs hBp).trans y6; go_simp; try (with_reducible rfl))
      try simp only [Act.put, List.setIfInBounds_toArray, List.set_cons_zero, List.set_cons_succ]
      refine wpAnyH_ready (rs := [6]) (by kernel_rfl) (by simp) ?_
      refine cons_ rfl (fun K hK => ?_) nil_
      go_simp
      (go_at_call 21; refine (hS.out _ (be_call JD0.out BM.out.size BM.out)).mono ?_; rintro e W2 ⟨q9, k9, rfl, hr9, hb9⟩)
      have HB2 := hide (be_call hb9 JD0.out.size JD0.out)
      go_wp2_with fail
      refine hK.out _ _ (Kp.of_below HB2.out) (fun _ => ?_)
      try simp only [Act.put, List.setIfInBounds_toArray, List.set_cons_zero, List.set_cons_succ]
      have JC2 := hide (Kp.of_below (lb := some pb) HB2.out)
      have P3 := hide (P2.out.below_then HB2.out)
      have HR9 := hide (hr9.lower (Nat.zero_le _))
      clear hK hb9 hr9 JC0 JD0 hS f0 f1 f2 f3 f4 f5 ff y0 y1 y2 y3 y4 y5 y6 y7 yf c0
      refine take_ (i := 10) (v := ?_) rfl (by kernel_rfl) (by kernel_rfl) (by kernel_rfl) (fun _ _ _ h => h) (Or.inl ⟨by rfl, ?_⟩) JC2.out ?_
      rotate_left
      · (intro w5 hSw; skip; go_simp; try (with_reducible rfl))
      try simp only [Act.put, List.setIfInBounds_toArray, List.set_cons_zero, List.set_cons_succ]
      obtain ⟨o, ho⟩ : ∃ o, i * 8 = o := ⟨_, rfl⟩
      refine take_ (i := 11) (v := ?_) rfl (by kernel_rfl) (by kernel_rfl) (by kernel_rfl) (fun _ _ _ h => h) (Or.inl ⟨by rfl, ?_⟩) JC2.out ?_
      rotate_left
      · (intro w5 hSw; skip; go_simp; try (with_reducible rfl))
      try simp only [Act.put, List.setIfInBounds_toArray, List.set_cons_zero, List.set_cons_succ]
      obtain ⟨x0, x1, x2, x3, x4, x5, x6, x7⟩ := P3.out.cells i _ HK.out
      have fz := fun j => bs_frozen P3.out.rows j
      rw [ho] at x0 x1 x2 x3 x4 x5 x6 x7
      refine wpAnyH_ready (rs := [12]) (by kernel_rfl) (by simp) ?_
      refine cons_ rfl (fun K hK => ?_) nil_
      go_simp
      clear x0 x1 x2 x3 x4 x5 x6 x7 fz
      change K _ (W2.setCells pb o [.int .i64 a, .int .i64 0, .slice q9 n k9, .int .i64 0, .int .i64 0, .bool false, .int .i64 (IntKind.i64.wrap (b.gen + 1)), .bool true])
      have hst : Hid (Pv w (W2.setCells pb o [.int .i64 a, .int .i64 0, .slice q9 n k9, .int .i64 0, .int .i64 0, .bool false, .int .i64 (b.gen + 1), .bool true]) g pb (bs.set i ⟨a, q9, n, k9, rs, b.gen + 1, true⟩)) := hide (by rw [← ho]; exact P3.out.stored i ⟨a, q9, n, k9, rs, b.gen + 1, true⟩ HKL.out HR9.out)
      have hkp : Hid (Kp M (some pb) (W2.setCells pb o [.int .i64 a, .int .i64 0, .slice q9 n k9, .int .i64 0, .int .i64 0, .bool false, .int .i64 (b.gen + 1), .bool true])) := hide (JC2.out.setCells _ _)
      rw [HW2.out]
      generalize W2.setCells pb o [.int .i64 a, .int .i64 0, .slice q9 n k9, .int .i64 0, .int .i64 0, .bool false, .int .i64 (b.gen + 1), .bool true] = W3 at *
      refine hK.out _ _ hkp.out (fun _ => ?_)
      try simp only [Act.put, List.setIfInBounds_toArray, List.set_cons_zero, List.set_cons_succ]
      have c6 : W3.cell? ⟨B, 6, none⟩ = some (.int .i64 b.gen) := (hkp.out.cell (p := ⟨B, 6, none⟩) hBs hBp).trans ((bs_cell HG.out 6).trans rfl)
      have hw3 := HW2.out
      refine wpAnyH_done (by kernel_rfl) ?_ _
      clear hK JC2 P3 HR9 HB2
      go_upto_region 6 with fail
      go_quiet (fail)
      go_wp2
      go_ret3
      refine ⟨q9, k9, rfl, hst.out.below_then (be_drewN (be_refl _)), fun x hx hne => ?_⟩
      exact (hkp.out.1 x (Nat.lt_of_lt_of_le hx BM.out.size) (fun e => hne (by injection e))).trans (BM.out.block x hx)
set_option maxHeartbeats 8000000 in
set_option maxRecDepth 100000 in
theorem take_no (a : Int) (v : Value) (w W : World) (g pb : Nat) (bs : List Bf) (h : Pv w W g pb bs) (hpre : ∀ j, j < bs.length → ∃ b, bs[j]? = some b ∧ b.t = true) (hn2 : bs.length ≤ 1000) :
    Calls Try.prog 10 #[.pointer (some ⟨g, 0, none⟩), frV a v] W fun e W' => e = .returned (.tuple #[.int .i64 0, .int .i64 0, .bool false]) ∧ Pv w W' g pb bs ∧ Below W.heap.size W W' := by
  have c0 := h.cell0
  have HP := hide h
  have HPRE := hide hpre
  obtain ⟨n, hn⟩ : ∃ n, n = bs.length := ⟨_, rfl⟩
  have HN := hide hn
  rw [← hn] at c0 hn2
  clear h hpre hn
  unfold frV at *
  go_enter Try.func10, Try.ntmps10
  go_wp2
  go_loopw [14] (fun v14 wr => ∃ i : Nat, i ≤ n ∧ v14 = .int .i64 (i : Int) ∧ Pv w wr g pb bs ∧ Below W.heap.size W wr) (fun v14 _ => n - (intOf v14).toNat)
  case atStart => exact ⟨0, Nat.zero_le _, rfl, HP.out.alloc _, be_alloc (be_refl _) (Nat.le_refl _)⟩
  case round =>
    obtain ⟨i, hi, rfl, hP, hB⟩ := hrel
    have B1 := hide hB
    clear hB
    clear c0
    have c0 := hP.cell0
    rw [← HN.out] at c0
    have P1 := hide hP
    have p0 : (0 : Int) ≤ (i : Int) := by omega
    by_cases hik : i < n
    · obtain ⟨b, hb, hb2⟩ := HPRE.out i (by have := HN.out; omega)
      obtain ⟨x0, x1, x2, x3, x4, x5, x6, x7⟩ := hP.cells i b hb
      rw [hb2] at x7
      have p1 : ((i : Int) < (n : Int)) = True := eq_true (by omega)
      clear hP
      go_wp2
      refine ⟨⟨i + 1, by omega, by simp, P1.out.alloc _, be_alloc B1.out B1.out.size⟩, ?_⟩
      simp only [intOf]; omega
    · have p1 : ((i : Int) < (n : Int)) = False := eq_false (by omega)
      clear hP
      go_wp2
      go_ret3
      exact ⟨rfl, P1.out, B1.out⟩
end Go.Proofs.Ytlkejpdclnbcoaa.PoolV


