/- Pools: what Take does with a frame that holds no rows: contracts, for every pool of at most eight buffers. -/
import Derived.Deep.RegionWith
import Derived.BigRegion
import Derived.Test.YtlkejpdclnbcoaaPoolBase
namespace Go.Proofs.Ytlkejpdclnbcoaa.PoolTake
open Go.RowKit Go.Proofs.YtlkejpdclnbcoaaKit Go.Proofs.YtlkejpdclnbcoaaW.PrintWords Go.Proofs.YtlkejpdclnbcoaaW.PrintLast Go.Proofs.Ytlkejpdclnbcoaa.PoolBase
theorem fro1 (w : World) (o1 : Obj) (b k : Nat) (h : (w.cell? ⟨b, k, none⟩).isSome = true) : (w.alloc o1).frozen? ⟨b, k, none⟩ = w.frozen? ⟨b, k, none⟩ := by
  obtain ⟨v, hv⟩ := Option.isSome_iff_exists.1 h
  exact (be_alloc (be_refl w) (Nat.le_refl _) : Below w.heap.size w (w.alloc o1)).frozen (p := ⟨b, k, none⟩) (World.block_lt_of_cell? w _ hv)
theorem fro2 (w : World) (o1 o2 : Obj) (b k : Nat) (h : (w.cell? ⟨b, k, none⟩).isSome = true) : ((w.alloc o1).alloc o2).frozen? ⟨b, k, none⟩ = w.frozen? ⟨b, k, none⟩ := by
  rw [fro1 _ _ _ _ (by rw [cell_alloc_some _ _ _ _ h]; exact h), fro1 _ _ _ _ h]
theorem fro3 (w : World) (o1 o2 o3 : Obj) (b k : Nat) (h : (w.cell? ⟨b, k, none⟩).isSome = true) : (((w.alloc o1).alloc o2).alloc o3).frozen? ⟨b, k, none⟩ = w.frozen? ⟨b, k, none⟩ := by
  rw [fro1 _ _ _ _ (by rw [cell_alloc2_some _ _ _ _ _ h]; exact h), fro2 _ _ _ _ _ h]
theorem fro4 (w : World) (o1 o2 o3 o4 : Obj) (b k : Nat) (h : (w.cell? ⟨b, k, none⟩).isSome = true) : ((((w.alloc o1).alloc o2).alloc o3).alloc o4).frozen? ⟨b, k, none⟩ = w.frozen? ⟨b, k, none⟩ := by
  rw [fro1 _ _ _ _ (by rw [cell_alloc3_some _ _ _ _ _ _ h]; exact h), fro3 _ _ _ _ _ _ h]
attribute [local go_sem] cell_alloc_some cell_alloc2_some cell_alloc3_some cell_alloc4_some fro1 fro2 fro3 fro4
set_option linter.unusedVariables false
set_option linter.unusedSimpArgs false
def frc (a : Int) : Obj := .cells #[.int .i64 a, .int .i64 0, .slice none 0 0, .int .i64 0, .int .i64 0, .bool false] 26 (0, 0)
set_option maxHeartbeats 8000000 in
set_option maxRecDepth 100000 in
theorem still_exact (a : Int) (w : World) : Calls Try.prog 21 #[fr a] w fun e w' => e = .returned (fr a) ∧ w' = (w.alloc (frc a)).alloc (frc a) := by
  unfold fr frc
  go_enter Try.func21, Try.ntmps21
  go_wp2
  go_loopw [3, 9] (fun v3 v9 wr => v3 = .slice none 0 0 ∧ v9 = .int .i64 0 ∧ wr = (w.alloc (.cells #[.int .i64 a, .int .i64 0, .slice none 0 0, .int .i64 0, .int .i64 0, .bool false] 26)).alloc (.cells #[.int .i64 0, .int .i64 0, .slice none 0 0, .int .i64 0, .int .i64 0, .bool false] 26)) (fun _ _ _ => 0)
  case atStart => exact ⟨rfl, rfl, rfl⟩
  case round =>
    obtain ⟨rfl, rfl, rfl⟩ := hrel
    go_wp2
    refine bodyPost_ret (results_cell_row rfl _ _ (w.heap.size + 1) 26 #[.int .i64 a, .int .i64 0, .slice none 0 0, .int .i64 0, .int .i64 0, .bool false] (0, 0) _ rfl ?_ Try.underlying26 rfl (by kernel_rfl)) rfl ?_
    · exact bs_new (by simp)
    · exact ⟨rfl, rfl⟩
theorem fr_store8 {pb : Nat} {W wr : World} (hB : Below W.heap.size W wr) (o1 o2 o3 : Obj) (k : Nat) (a n : Int) (t : Bool) :
    Fr pb W (((((((((((wr.alloc o1).alloc o2).alloc o3).setCell ⟨pb, k, none⟩ (.int .i64 a)).setCell ⟨pb, k + 1, none⟩ (.int .i64 0)).setCell ⟨pb, k + 2, none⟩ (.slice none 0 0)).setCell ⟨pb, k + 3, none⟩ (.int .i64 0)).setCell ⟨pb, k + 4, none⟩ (.int .i64 0)).setCell ⟨pb, k + 5, none⟩ (.bool false)).setCell ⟨pb, k + 6, none⟩ (.int .i64 n)).setCell ⟨pb, k + 7, none⟩ (.bool t)).drew := by
  intro q hq hne
  have hq2 : q < wr.heap.size := Nat.lt_of_lt_of_le hq hB.size
  rw [show ∀ X : World, X.drew.heap = X.heap from fun _ => rfl]
  rw [Below.heap_setCell _ ⟨pb, k + 7, none⟩ _ q hne, Below.heap_setCell _ ⟨pb, k + 6, none⟩ _ q hne, Below.heap_setCell _ ⟨pb, k + 5, none⟩ _ q hne, Below.heap_setCell _ ⟨pb, k + 4, none⟩ _ q hne, Below.heap_setCell _ ⟨pb, k + 3, none⟩ _ q hne, Below.heap_setCell _ ⟨pb, k + 2, none⟩ _ q hne, Below.heap_setCell _ ⟨pb, k + 1, none⟩ _ q hne, Below.heap_setCell _ ⟨pb, k, none⟩ _ q hne]
  have h1 : Below wr.heap.size wr (((wr.alloc o1).alloc o2).alloc o3) := be_alloc (be_alloc (be_alloc (be_refl wr) (Nat.le_refl _)) (by simp)) (by simp; omega)
  exact (h1.block q hq2).trans (hB.block q hq)
set_option maxHeartbeats 8000000 in
set_option maxRecDepth 100000 in
theorem take_yes (a : Int) (k : Nat) (x gen : Int) (w W : World) (g pb : Nat) (bs : List (Int × Int × Bool)) (h : Pl w W g pb bs) (hk : bs[k]? = some (x, gen, false)) (hpre : ∀ j, j < k → ∃ b, bs[j]? = some b ∧ b.2.2 = true) (hg : 0 ≤ gen ∧ gen ≤ 1000) (hk2 : k ≤ 1000) :
    Calls Try.prog 10 #[.pointer (some ⟨g, 0, none⟩), fr a] W fun e W' => e = .returned (.tuple #[.int .i64 (k : Int), .int .i64 (gen + 1), .bool true]) ∧ Pl w W' g pb (bs.set k (a, gen + 1, true)) ∧ Fr pb W W' := by
  have c0 := h.cell0
  have hwr : wrap64 (gen + 1) = gen + 1 := by unfold wrap64; omega
  have hS := hide (still_exact a)
  have HP := hide h
  have hw2 : IntKind.i64.wrap (gen + 1) = gen + 1 := by rw [IntKind.wrap_i64]; omega
  have HW2 := hide hw2
  have HK := hide hk
  have HPRE := hide hpre
  have hkl : k < bs.length := (List.getElem?_eq_some_iff.1 hk).1
  have HKL := hide hkl
  obtain ⟨n, hn⟩ : ∃ n, n = bs.length := ⟨_, rfl⟩
  rw [← hn] at c0 hkl
  clear h hg hk hpre hn hw2
  have HWR := hide hwr
  clear hwr
  unfold fr frc at *
  go_enter Try.func10, Try.ntmps10
  go_wp2
  go_loopw [14] (fun v14 wr => ∃ i : Nat, i ≤ k ∧ v14 = .int .i64 (i : Int) ∧ Pl w wr g pb bs ∧ wr.heap[W.heap.size]? = some (.cells #[.int .i64 a, .int .i64 0, .slice none 0 0, .int .i64 0, .int .i64 0, .bool false] 26 (0, 0)) ∧ Below W.heap.size W wr) (fun v14 _ => k - (intOf v14).toNat)
  case atStart => exact ⟨0, Nat.zero_le _, rfl, HP.out.alloc _, bs_new rfl, be_alloc (be_refl _) (Nat.le_refl _)⟩
  case round =>
    obtain ⟨i, hi, rfl, hP, hF, hB⟩ := hrel
    have B1 := hide hB
    clear hB
    clear c0
    have c0 := hP.cell0
    have hPw := hP
    have P1 := hide hP
    have F1 := hide hF
    obtain ⟨f0, f1, f2, f3, f4, f5, ff⟩ := cells6 hF
    clear hP hF
    have p0 : (0 : Int) ≤ (i : Int) := by omega
    have p1 : ((i : Int) < (n : Int)) = True := eq_true (by omega)
    by_cases hik : i < k
    · obtain ⟨b, hb, hb2⟩ := HPRE.out i hik
      obtain ⟨x0, x1, x2, x3, x4, x5, x6, x7⟩ := hPw.cells i b hb
      rw [hb2] at x7
      clear hPw
      go_wp2
      refine ⟨⟨i + 1, by omega, by simp, P1.out.alloc _, bs_alloc F1.out, be_alloc B1.out B1.out.size⟩, ?_⟩
      simp only [intOf]; omega
    · have hik2 : i = k := by omega
      subst hik2
      obtain ⟨x0, x1, x2, x3, x4, x5, x6, x7⟩ := hPw.cells i _ HK.out
      have fz := fun j => bs_frozen hPw.rows j
      clear hPw
      obtain ⟨o, ho⟩ : ∃ o, i * 8 = o := ⟨_, rfl⟩
      rw [ho] at x0 x1 x2 x3 x4 x5 x6 x7
      go_upto_region 5 with fail
      go_cut [7] (fun s7 wx => s7 = .int .i64 (i : Int) ∧ Pl w wx g pb (bs.set i (a, gen + 1, true)) ∧ Fr pb W wx ∧ wx.heap[wr.heap.size]? = some (.cells #[.int .i64 x, .int .i64 0, .slice none 0 0, .int .i64 0, .int .i64 0, .bool false, .int .i64 gen, .bool false] 78 (0, 0)))
      case first =>
        go_region_with (go_at_call 21; with_reducible refine (hS.out _).mono ?_; rintro e v ⟨rfl, hv⟩; subst v)
        all_goals
          go_wp2_with fail
          go_meet
          have e : bs.set i (a, gen + 1, true) = bs.set i (a, wrap64 (gen + 1), true) := by rw [HWR.out]
          have hpw : pb < wr.heap.size := bs_lt P1.out.rows
          subst ho
          refine ⟨rfl, ?_, ?_, ?_⟩
          · rw [e]
            exact Pl.drew (Pl.store ((((P1.out).alloc _).alloc _).alloc _) i a (wrap64 (gen + 1)) true HKL.out)
          · exact fr_store8 B1.out _ _ _ (i * 8) a (wrap64 (gen + 1)) true
          · (repeat (first | (with_reducible assumption) | (with_reducible apply bs_same) | (with_reducible apply bs_far; case hp => (dsimp only; omega)) | (with_reducible apply bs_drew) | (with_reducible apply bs_drewN) | (with_reducible apply bs_new; (first | (with_reducible rfl) | (simp; done))) | (with_reducible apply bs_alloc) | (with_reducible apply bs_below; (case hb => with_reducible assumption); (case hB => first | omega | (simp; omega) | (simp; done)))))
      case rest =>
        obtain ⟨rfl, P2, fr2, q2⟩ := hcut
        have c6 : wc.cell? ⟨wr.heap.size, 6, none⟩ = some (.int .i64 gen) := (bs_cell q2 6).trans rfl
        have hw3 := HW2.out
        go_upto_region 6 with fail
        go_region
        all_goals
          go_wp2
          go_ret3
          exact ⟨rfl, P2.drew, fr2⟩
set_option maxHeartbeats 8000000 in
set_option maxRecDepth 100000 in
theorem take_no (a : Int) (w W : World) (g pb : Nat) (bs : List (Int × Int × Bool)) (h : Pl w W g pb bs) (hpre : ∀ j, j < bs.length → ∃ b, bs[j]? = some b ∧ b.2.2 = true) (hn2 : bs.length ≤ 1000) :
    Calls Try.prog 10 #[.pointer (some ⟨g, 0, none⟩), fr a] W fun e W' => e = .returned (.tuple #[.int .i64 0, .int .i64 0, .bool false]) ∧ Pl w W' g pb bs ∧ Below W.heap.size W W' := by
  have c0 := h.cell0
  have HP := hide h
  have HPRE := hide hpre
  obtain ⟨n, hn⟩ : ∃ n, n = bs.length := ⟨_, rfl⟩
  have HN := hide hn
  rw [← hn] at c0 hn2
  clear h hpre hn
  unfold fr at *
  go_enter Try.func10, Try.ntmps10
  go_wp2
  go_loopw [14] (fun v14 wr => ∃ i : Nat, i ≤ n ∧ v14 = .int .i64 (i : Int) ∧ Pl w wr g pb bs ∧ Below W.heap.size W wr) (fun v14 _ => n - (intOf v14).toNat)
  case atStart => exact ⟨0, Nat.zero_le _, rfl, HP.out.alloc _, be_alloc (be_refl _) (Nat.le_refl _)⟩
  case round =>
    obtain ⟨i, hi, rfl, hP, hB⟩ := hrel
    have B1 := hide hB
    clear hB
    clear c0
    have c0 := hP.cell0
    rw [← HN.out] at c0
    have P1 := hide hP
    have p0 : (0 : Int) ≤ (i : Int) := by omega
    by_cases hik : i < n
    · obtain ⟨b, hb, hb2⟩ := HPRE.out i (by have := HN.out; omega)
      obtain ⟨x0, x1, x2, x3, x4, x5, x6, x7⟩ := hP.cells i b hb
      rw [hb2] at x7
      have p1 : ((i : Int) < (n : Int)) = True := eq_true (by omega)
      clear hP
      go_wp2
      refine ⟨⟨i + 1, by omega, by simp, P1.out.alloc _, be_alloc B1.out B1.out.size⟩, ?_⟩
      simp only [intOf]; omega
    · have p1 : ((i : Int) < (n : Int)) = False := eq_false (by omega)
      clear hP
      go_wp2
      go_ret3
      exact ⟨rfl, P1.out, B1.out⟩
end Go.Proofs.Ytlkejpdclnbcoaa.PoolTake

