/- EpocHolds: a thread that stays pinned keeps all that was retired since; it keeps nothing that was retired two epochs ahead of it: however many advances, tries and things retired, without a condition. -/
import Derived.Test.YtnpeklimpdljbaaEpocUse
namespace Go.Proofs.Ytnpeklimpdljbaa.EpocHoldsW
open Go.RowKit Go.Proofs.YtnpeklimpdljbaaKit Go.Proofs.YtnpeklimpdljbaaW.PrintWords Go.Proofs.YtnpeklimpdljbaaW.PrintLast Go.Proofs.Ytnpeklimpdljbaa.EpocBase Go.Proofs.Ytnpeklimpdljbaa.EpocOps Go.Proofs.Ytnpeklimpdljbaa.EpocRows Go.Proofs.Ytnpeklimpdljbaa.EpocAdv Go.Proofs.Ytnpeklimpdljbaa.EpocUse
attribute [local go_sem] cell_alloc_some cell_alloc2_some cell_alloc3_some cell_alloc4_some
set_option linter.unusedVariables false
set_option linter.unusedSimpArgs false
theorem and7 (n : Int) : ∃ N : Nat, Go.bits .and .i64 n 7 = (N : Int) ∧ N ≤ 7 := by
  have h : 0 ≤ Go.bits .and .i64 n 7 ∧ Go.bits .and .i64 n 7 ≤ 7 := and_range 3 (by omega) n
  exact ⟨(Go.bits .and .i64 n 7).toNat, by omega, by omega⟩
def Xs (a : Int) (i : Nat) : List (Int × Int) := (List.range i).map fun (k : Nat) => ((k : Int), a)
theorem Xs_len (a : Int) (i : Nat) : (Xs a i).length = i := by simp [Xs]
theorem Xs_succ (a : Int) (i : Nat) : Xs a i ++ [((i : Int), a)] = Xs a (i + 1) := by simp [Xs, List.range_succ]
theorem Xs_out (a : Int) (i : Nat) : out a (Xs a i) = [] := by
  unfold out
  rw [List.filter_eq_nil_iff.2, List.map_nil]
  intro x hx
  obtain ⟨k, _, rfl⟩ := List.mem_map.1 hx
  simp
  omega
theorem Xs_rest (a : Int) (i : Nat) : rest a (Xs a i) = Xs a i := by
  unfold rest
  rw [List.filter_eq_self]
  intro x hx
  obtain ⟨k, _, rfl⟩ := List.mem_map.1 hx
  simp
  omega
section
variable (w W : World) (g pb : Nat) (lb : Option Nat) (cap : Nat) (A : Nat) (hA : A ≤ 8)
theorem b1 (i : Nat) (hi : i ≤ 8) (h : Ep w W g pb lb cap (i : Int) [0, 0] []) : Calls Try.prog 9 #[.pointer (some ⟨g, 0, none⟩)] W fun e W' => ∃ oa oc lb' cap', e = .returned (.tuple #[.slice oa 0 oc, .bool true]) ∧ RD W' W.heap.size oa [] ∧ Ep w W' g pb lb' cap' ((i : Int) + 1) [0, 0] [] ∧ Fr g pb W lb W' lb' := adv_rd w W g pb lb cap i _ _ h (by simp) (by simp) (by simp) (by omega) (by simp [canB, okP])
theorem b2 (h : Ep w W g pb lb cap (A : Int) [0, 0] []) (hA : A ≤ 8) : Calls Try.prog 14 #[.pointer (some ⟨g, 0, none⟩), .int .i64 1] W fun e W' => e = .returned (.bool true) ∧ Ep w W' g pb lb cap (A : Int) [0, (A : Int) + 1] [] ∧ Fr g pb W lb W' lb := pin_yes 1 w W g pb lb cap A _ _ h (by omega) rfl (by omega)
theorem b3 (i : Nat) (hi : i ≤ 8) (h : Ep w W g pb lb cap (A : Int) [0, (A : Int) + 1] (Xs A i)) : Calls Try.prog 8 #[.pointer (some ⟨g, 0, none⟩), .int .i64 (i : Int)] W fun e W' => e = .returned (.tuple #[]) ∧ ∃ lb' cap', Ep w W' g pb lb' cap' (A : Int) [0, (A : Int) + 1] (Xs A (i + 1)) ∧ Fr g pb W lb W' lb' := by
  have := retire_calls i w W g pb lb cap A _ _ h (by rw [Xs_len]; omega)
  rwa [Xs_succ] at this
theorem b4 (N : Nat) (hN : N ≤ 8) (hA : A ≤ 8) (h : Ep w W g pb lb cap (A : Int) [0, (A : Int) + 1] (Xs A N)) : Calls Try.prog 9 #[.pointer (some ⟨g, 0, none⟩)] W fun e W' => ∃ oa oc lb' cap', e = .returned (.tuple #[.slice oa 0 oc, .bool true]) ∧ RD W' W.heap.size oa [] ∧ Ep w W' g pb lb' cap' ((A : Int) + 1) [0, (A : Int) + 1] (Xs A N) ∧ Fr g pb W lb W' lb' := by
  have := adv_rd w W g pb lb cap A _ _ h (by simp; omega) (by simp) (by rw [Xs_len]; omega) (by omega) (by simp [canB, okP])
  rwa [Xs_out, Xs_rest] at this
theorem b5 (N : Nat) (hA : A ≤ 8) (h : Ep w W g pb lb cap ((A : Int) + 1) [0, (A : Int) + 1] (Xs A N)) : Calls Try.prog 9 #[.pointer (some ⟨g, 0, none⟩)] W fun e W' => e = .returned (.tuple #[.slice none 0 0, .bool false]) ∧ W' = W := adv_no w W g pb lb cap _ _ _ h (by simp; omega) (by simp) (by simp [canB, okP]; omega)
theorem b6 (N : Nat) (hA : A ≤ 8) (h : Ep w W g pb lb cap ((A : Int) + 1) [0, (A : Int) + 1] (Xs A N)) : Calls Try.prog 15 #[.pointer (some ⟨g, 0, none⟩), .int .i64 1] W fun e W' => e = .returned (.tuple #[.int .i64 (A : Int), .bool true]) ∧ W' = W := by
  have := pinned_yes 1 ((A : Int) + 1) w W g pb lb cap _ _ _ h (by omega) rfl (by omega) (by omega)
  rwa [show (A : Int) + 1 - 1 = A by omega] at this
theorem b7 (N : Nat) (h : Ep w W g pb lb cap ((A : Int) + 1) [0, (A : Int) + 1] (Xs A N)) : Calls Try.prog 11 #[.pointer (some ⟨g, 0, none⟩)] W fun e W' => e = .returned (.int .i64 ((A : Int) + 1)) ∧ W' = W := now_calls w W g pb lb cap _ _ _ h
theorem b8 (N : Nat) (hN : N ≤ 8) (h : Ep w W g pb lb cap ((A : Int) + 1) [0, (A : Int) + 1] (Xs A N)) : Calls Try.prog 12 #[.pointer (some ⟨g, 0, none⟩)] W fun e W' => ∃ oa oc, e = .returned (.slice oa N oc) ∧ Below W.heap.size W W' := by
  have := waiting_rd w W g pb lb cap _ _ _ h (by rw [Xs_len]; omega)
  rw [Xs_len] at this
  exact this.mono fun e W' ⟨oa, oc, h1, _, h2⟩ => ⟨oa, oc, h1, h2⟩
end
set_option maxHeartbeats 8000000 in
set_option maxRecDepth 100000 in
theorem walkR (a t n : Int) (w : World) (_ : (Lit.int .i64 a).wf = true) (_ : (Lit.int .i64 t).wf = true) (_ : (Lit.int .i64 n).wf = true) :
    Calls Try.prog 4 #[.int .i64 a, .int .i64 t, .int .i64 n] w fun e w' => e = .returned (.bool true) ∧ Below w.heap.size w w' := by
  obtain ⟨A, hAe, hA1⟩ := and7 a
  obtain ⟨T, hTe, hT1⟩ := and7 t
  obtain ⟨N, hNe, hN1⟩ := and7 n
  have HB := hide (show A ≤ 8 ∧ T ≤ 8 ∧ N ≤ 8 by omega)
  have HN := hide (n2 w)
  have hwA : wrap64 ((A : Int) + 1) = (A : Int) + 1 := by unfold wrap64; omega
  clear hA1 hT1 hN1
  go_enter Try.func4, Try.ntmps4
  go_wp2_with (go_at_call 7; with_reducible refine (HN.out).mono ?_; rintro e W1 ⟨g, pb, rfl, P⟩; have P1 := hide P; clear P)
  go_loopw [8] (fun v8 wr => ∃ i : Nat, ∃ lb cap, i ≤ A ∧ v8 = .int .i64 (i : Int) ∧ Ep w wr g pb lb cap (i : Int) [0, 0] []) (fun v8 _ => (A - intOf v8).toNat)
  case atStart => exact ⟨0, none, 0, Nat.zero_le _, rfl, P1.out⟩
  case round =>
    obtain ⟨i, lb, cap, hi, rfl, hP⟩ := hrel
    have P2 := hide hP
    clear hP
    by_cases hgo : i < A
    · have p1 : ((i : Int) < (A : Int)) = True := eq_true (by omega)
      have HM := hide (show wrap64 ((i : Int) + 1) = (i : Int) + 1 by have := HB.out; unfold wrap64; omega)
      have HI := hide hgo
      clear hgo hi
      go_wp2_with (go_at_call 9; with_reducible refine (b1 w _ g pb _ _ i (by have := HI.out; have := HB.out; omega) P2.out).mono ?_; rintro e W3 ⟨oa, oc, lb3, cap3, rfl, _, P, _⟩; have P3 := hide P; clear P)
      refine ⟨⟨i + 1, lb3, cap3, by have := HI.out; omega, by rw [HM.out]; simp, by exact_mod_cast P3.out⟩, ?_⟩
      rw [HM.out]; simp only [intOf]; have := HI.out; omega
    · have p1 : ((i : Int) < (A : Int)) = False := eq_false (by omega)
      have hiA : i = A := by omega
      have PA := hide (show Ep w wr g pb lb cap (A : Int) [0, 0] [] from hiA ▸ P2.out)
      clear hiA hi hgo
      go_wp2_with (go_at_call 14; with_reducible refine (b2 w _ g pb _ _ A PA.out HB.out.1).mono ?_; rintro e W4 ⟨rfl, P, _⟩; have P4 := hide P; clear P)
      go_loopw [11] (fun v11 wr => ∃ i : Nat, ∃ lb cap, i ≤ N ∧ v11 = .int .i64 (i : Int) ∧ Ep w wr g pb lb cap (A : Int) [0, (A : Int) + 1] (Xs A i)) (fun v11 _ => (N - intOf v11).toNat)
      case atStart => exact ⟨0, lb, cap, Nat.zero_le _, rfl, P4.out⟩
      case round =>
        obtain ⟨i2, lb2, cap2, hi2, rfl, hP⟩ := hrel
        have P5 := hide hP
        clear hP
        by_cases hgo2 : i2 < N
        · have p2 : ((i2 : Int) < (N : Int)) = True := eq_true (by omega)
          have HM2 := hide (show wrap64 ((i2 : Int) + 1) = (i2 : Int) + 1 by have := HB.out; unfold wrap64; omega)
          have HI2 := hide hgo2
          clear hgo2 hi2
          go_wp2_with (go_at_call 8; with_reducible refine (b3 w _ g pb _ _ A i2 (by have := HI2.out; have := HB.out; omega) P5.out).mono ?_; rintro e W6 ⟨rfl, lb6, cap6, P, _⟩; have P6 := hide P; clear P)
          refine ⟨⟨i2 + 1, lb6, cap6, by have := HI2.out; omega, by rw [HM2.out]; simp, P6.out⟩, ?_⟩
          rw [HM2.out]; simp only [intOf]; have := HI2.out; omega
        · have p2 : ((i2 : Int) < (N : Int)) = False := eq_false (by omega)
          have hiN : i2 = N := by omega
          have PN := hide (show Ep w wr g pb lb2 cap2 (A : Int) [0, (A : Int) + 1] (Xs A N) from hiN ▸ P5.out)
          clear hiN hi2 hgo2
          go_wp2_with (go_at_call 9; with_reducible refine (b4 w _ g pb _ _ A N HB.out.2.2 HB.out.1 PN.out).mono ?_; rintro e W7 ⟨oa7, oc7, lb7, cap7, rfl, _, P, _⟩; have P7 := hide P; clear P)
          go_loopw [14] (fun v14 wr => ∃ i : Nat, i ≤ T ∧ v14 = .int .i64 (i : Int) ∧ Ep w wr g pb lb7 cap7 ((A : Int) + 1) [0, (A : Int) + 1] (Xs A N)) (fun v14 _ => (T - intOf v14).toNat)
          case atStart => exact ⟨0, Nat.zero_le _, rfl, P7.out⟩
          case round =>
            obtain ⟨i3, hi3, rfl, hP⟩ := hrel
            have P8 := hide hP
            clear hP
            by_cases hgo3 : i3 < T
            · have p3 : ((i3 : Int) < (T : Int)) = True := eq_true (by omega)
              have HM3 := hide (show wrap64 ((i3 : Int) + 1) = (i3 : Int) + 1 by have := HB.out; unfold wrap64; omega)
              have HI3 := hide hgo3
              clear hgo3 hi3
              go_wp2_with (go_at_call 9; with_reducible refine (b5 w _ g pb _ _ A N HB.out.1 P8.out).mono ?_; rintro e v ⟨rfl, hv⟩; subst v)
              refine ⟨⟨i3 + 1, by have := HI3.out; omega, by rw [HM3.out]; simp, P8.out⟩, ?_⟩
              rw [HM3.out]; simp only [intOf]; have := HI3.out; omega
            · have p3 : ((i3 : Int) < (T : Int)) = False := eq_false (by omega)
              clear hgo3 hi3
              go_wp2_with (first
                | (go_at_call 15; with_reducible refine (b6 w _ g pb _ _ A N HB.out.1 P8.out).mono ?_; rintro e v ⟨rfl, hv⟩; subst v)
                | (go_at_call 11; with_reducible refine (b7 w _ g pb _ _ A N P8.out).mono ?_; rintro e v ⟨rfl, hv⟩; subst v)
                | (go_at_call 12; with_reducible refine (b8 w _ g pb _ _ A N HB.out.2.2 P8.out).mono ?_; rintro e W9 ⟨oa9, oc9, rfl, hb9⟩; have P9 := hide (P8.out.below_then hb9))
                | (go_at_call 13; refine (awake_calls _).mono ?_; rintro e W10 ⟨rfl, hb10⟩))
              go_ret
              exact ⟨rfl, be_call hb10 P9.out.below.size P9.out.below⟩
end Go.Proofs.Ytnpeklimpdljbaa.EpocHoldsW

