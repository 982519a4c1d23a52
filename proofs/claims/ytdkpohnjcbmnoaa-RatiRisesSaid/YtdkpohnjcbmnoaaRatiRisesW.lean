/- RatiRises: a greater share is no lesser part, of more no lesser one; it is within the whole; two parts that are one together are the whole, or one less: for any numbers and any two shares, without a condition. -/
import Derived.Test.YtdkpohnjcbmnoaaRatiBase
import Derived.Test.YtdkpohnjcbmnoaaRatiMath
namespace Go.Proofs.Ytdkpohnjcbmnoaa.RatiRisesW
open Go.RowKit Go.Proofs.YtdkpohnjcbmnoaaKit Go.Proofs.Ytdkpohnjcbmnoaa.RatiBase Go.Proofs.Ytdkpohnjcbmnoaa.RatiMath
set_option linter.unusedVariables false
set_option linter.unusedSimpArgs false
attribute [local go_sem] run_bits run_frombits unary_negf neg_nan
theorem partF (N A : Nat) (hN : N ≤ 8191) (hA : A ≤ 1024) : partV (N : Int) (F A) = some ((A * N / 1024 : Nat) : Int) := by
  have hh : held (N : Int) 0 10000 = (N : Int) := by unfold held; repeat' split <;> omega
  have h1 : nanB (F A) = false := by unfold nanB; rw [order_F A A hA hA]; simp
  have h2 : leB (F A) = decide (A = 0) := by
    have := order_F A 0 hA (by omega)
    rw [F_zero] at this
    unfold leB
    rw [this]
    by_cases h : A = 0
    · subst h; rfl
    · rw [Nat.compare_eq_gt.2 (by omega)]; simp [h]
  have h3 : geB (F A) = decide (A = 1024) := by
    have := order_F A 1024 hA (by omega)
    rw [F_one] at this
    unfold geB
    rw [this]
    by_cases h : A = 1024
    · subst h; rfl
    · rw [Nat.compare_eq_lt.2 (by omega)]; simp [h]
  unfold partV
  rw [hh, h1, h2, h3]
  simp only [Bool.false_eq_true, if_false, decide_eq_true_eq]
  by_cases a0 : A = 0
  · subst a0; simp
  · rw [if_neg a0]
    by_cases a1 : A = 1024
    · subst a1
      rw [if_pos rfl, Nat.mul_comm, Nat.mul_div_cancel _ (by omega)]
    · rw [if_neg a1]
      unfold timesV
      rw [times_F A N a0 hA (by omega)]
      simp only [Option.bind_some]
      have hle : A * N / 1024 ≤ N := by
        have : A * N ≤ 1024 * N := Nat.mul_le_mul_right _ hA
        rw [Nat.div_le_iff_le_mul_add_pred (by omega)]
        omega
      congr 1
      unfold held
      repeat' split <;> omega
theorem min_F (A B : Nat) (hA : A ≤ 1024) (hB : B ≤ 1024) : Builtin.min2 (.float .f64 (F A)) (.float .f64 (F B)) = pure (.float .f64 (F (min A B))) := by
  simp only [Builtin.min2, order_F A B hA hB]
  rcases Nat.lt_trichotomy A B with h | h | h
  · rw [Nat.compare_eq_lt.2 h, Nat.min_eq_left (by omega)]
  · subst h; rw [Nat.compare_eq_eq.2 rfl, Nat.min_self]; simp
  · rw [Nat.compare_eq_gt.2 h, Nat.min_eq_right (by omega)]
theorem max_F (A B : Nat) (hA : A ≤ 1024) (hB : B ≤ 1024) : Builtin.max2 (.float .f64 (F A)) (.float .f64 (F B)) = pure (.float .f64 (F (max A B))) := by
  simp only [Builtin.max2, order_F A B hA hB]
  rcases Nat.lt_trichotomy A B with h | h | h
  · rw [Nat.compare_eq_lt.2 h, Nat.max_eq_right (by omega)]
  · subst h; rw [Nat.compare_eq_eq.2 rfl, Nat.max_self]; simp
  · rw [Nat.compare_eq_gt.2 h, Nat.max_eq_left (by omega)]
theorem small (n : Int) : ∃ N : Nat, Go.bits .and .i64 n 8191 = (N : Int) ∧ N ≤ 8191 := by
  have h : 0 ≤ Go.bits .and .i64 n 8191 ∧ Go.bits .and .i64 n 8191 ≤ 8191 := and_range 13 (by omega) n
  exact ⟨(Go.bits .and .i64 n 8191).toNat, by omega, by omega⟩
theorem share (a : Int) (ha : (Lit.int .u64 a).wf = true) : ∃ A : Nat, a.tmod 1025 = (A : Int) ∧ A ≤ 1024 := by
  simp [Lit.wf, IntKind.min, IntKind.max, IntKind.signed, IntKind.bits] at ha
  have h := ha.1
  have e : a.tmod 1025 = a % 1025 := Int.tmod_eq_emod_of_nonneg h
  exact ⟨(a.tmod 1025).toNat, by omega, by omega⟩
theorem facts (N M A B : Nat) (hN : N ≤ 8191) (hM : M ≤ 8191) (hA : A ≤ 1024) (hB : B ≤ 1024) :
    ∃ p q t v u : Int, p = ((min A B * N / 1024 : Nat) : Int) ∧ q = ((max A B * N / 1024 : Nat) : Int) ∧ t = ((A * N / 1024 : Nat) : Int) ∧ v = ((A * M / 1024 : Nat) : Int) ∧ u = (((1024 - A) * N / 1024 : Nat) : Int) ∧
      0 ≤ p ∧ p ≤ q ∧ q ≤ N ∧ ((N : Int) < M → t ≤ v) ∧ 0 ≤ t ∧ 0 ≤ u ∧ (t + u = N ∨ t + u = N - 1) := by
  refine ⟨_, _, _, _, _, rfl, rfl, rfl, rfl, rfl, by omega, ?_, ?_, ?_, by omega, by omega, ?_⟩
  · exact Int.ofNat_le.2 (Nat.div_le_div_right (Nat.mul_le_mul_right _ (by omega)))
  · have : max A B * N ≤ 1024 * N := Nat.mul_le_mul_right _ (by omega)
    omega
  · intro h
    exact Int.ofNat_le.2 (Nat.div_le_div_right (Nat.mul_le_mul_left _ (by omega)))
  · have : A * N + (1024 - A) * N = 1024 * N := by rw [← Nat.add_mul]; congr 1; omega
    generalize A * N = x at *
    generalize (1024 - A) * N = y at *
    omega
set_option maxHeartbeats 8000000 in
set_option maxRecDepth 100000 in
theorem walkR (n m a b : Int) (w : World) (_ : (Lit.int .i64 n).wf = true) (_ : (Lit.int .i64 m).wf = true) (ha : (Lit.int .u64 a).wf = true) (hb : (Lit.int .u64 b).wf = true) :
    Calls Try.prog 6 #[.int .i64 n, .int .i64 m, .int .u64 a, .int .u64 b] w fun e w' => e = .returned (.bool true) ∧ Below w.heap.size w w' := by
  obtain ⟨N, hN, hN2⟩ := small n
  obtain ⟨M, hM, hM2⟩ := small m
  obtain ⟨A, hA, hA2⟩ := share a ha
  obtain ⟨B, hB, hB2⟩ := share b hb
  obtain ⟨p, q, t, v, u, ep, eq, et, ev, eu, F0⟩ := facts N M A B hN2 hM2 hA2 hB2
  have P1 := fun w => part_calls (N : Int) (F (min A B)) p w (by rw [ep]; exact partF N (min A B) hN2 (by omega))
  have P2 := fun w => part_calls (N : Int) (F (max A B)) q w (by rw [eq]; exact partF N (max A B) hN2 (by omega))
  have P3 := fun w => part_calls (N : Int) (F A) t w (by rw [et]; exact partF N A hN2 hA2)
  have P4 := fun w => part_calls (M : Int) (F A) v w (by rw [ev]; exact partF M A hM2 hA2)
  have P5 := fun w => part_calls (N : Int) (F (1024 - A)) u w (by rw [eu]; exact partF N (1024 - A) hN2 (by omega))
  have P6 := fun w => part_calls (N : Int) 0 0 w (by have := partF N 0 hN2 (by omega); rw [F_zero] at this; simpa using this)
  have P7 := fun w => part_calls (N : Int) 4607182418800017408 (N : Int) w (by have := partF N 1024 hN2 (by omega); rw [F_one, Nat.mul_comm, Nat.mul_div_cancel _ (by omega)] at this; exact this)
  clear ep eq et ev eu
  have C1 : ∀ w : World, (convert 31 22 (.int .u64 (A : Int))).run Try.prog w = .ok (.float .f64 (floatOfInt .f64 (A : Int))) w := fun w => run_convert_int_float w 31 22 .u64 .f64 A (by kernel_rfl) (by kernel_rfl)
  have C2 : ∀ w : World, (convert 31 22 (.int .u64 (B : Int))).run Try.prog w = .ok (.float .f64 (floatOfInt .f64 (B : Int))) w := fun w => run_convert_int_float w 31 22 .u64 .f64 B (by kernel_rfl) (by kernel_rfl)
  have D1 : ∀ w : World, (binOp .quo 22 (.float .f64 (floatOfInt .f64 (A : Int))) (.float .f64 4652218415073722368)).run Try.prog w = .ok (.float .f64 (F A)) w := fun w => run_float_arith w .quo 22 .f64 _ _ _ (div_F A hA2)
  have D2 : ∀ w : World, (binOp .quo 22 (.float .f64 (floatOfInt .f64 (B : Int))) (.float .f64 4652218415073722368)).run Try.prog w = .ok (.float .f64 (F B)) w := fun w => run_float_arith w .quo 22 .f64 _ _ _ (div_F B hB2)
  have D3 : ∀ w : World, (binOp .sub 22 (.float .f64 4607182418800017408) (.float .f64 (F A))).run Try.prog w = .ok (.float .f64 (F (1024 - A))) w := fun w => run_float_arith w .sub 22 .f64 _ _ _ (sub_F A hA2)
  have M1 : ∀ (ts : Array TypeId) (t : TypeId) (w : World), (Builtin.min_ ts t #[.float .f64 (F A), .float .f64 (F B)]).run Try.prog w = .ok (.float .f64 (F (min A B))) w := fun ts t w => by simp [Builtin.min_, min_F A B hA2 hB2]
  have M2 : ∀ (ts : Array TypeId) (t : TypeId) (w : World), (Builtin.max_ ts t #[.float .f64 (F A), .float .f64 (F B)]).run Try.prog w = .ok (.float .f64 (F (max A B))) w := fun ts t w => by simp [Builtin.max_, max_F A B hA2 hB2]
  have W1 : wrap64 (t + u) = t + u := by unfold wrap64; omega
  have W2 : wrap64 ((N : Int) - 1) = (N : Int) - 1 := by unfold wrap64; omega
  have p1 := hide P1; have p2 := hide P2; have p3 := hide P3; have p4 := hide P4; have p5 := hide P5; have p6 := hide P6; have p7 := hide P7
  have f0 := hide F0
  have hNN : (0 : Int) ≤ N := by omega
  clear P1 P2 P3 P4 P5 P6 P7 F0 hN2 hM2 hA2 hB2 ha hb
  go_enter Try.func6, Try.ntmps6
  go_wp2_with (first
   | (go_at_call 10; with_reducible refine (p1.out _).mono ?_; rintro e v ⟨rfl, hv⟩; subst v)
   | (go_at_call 10; with_reducible refine (p2.out _).mono ?_; rintro e v ⟨rfl, hv⟩; subst v)
   | (go_at_call 10; with_reducible refine (p3.out _).mono ?_; rintro e v ⟨rfl, hv⟩; subst v)
   | (go_at_call 10; with_reducible refine (p4.out _).mono ?_; rintro e v ⟨rfl, hv⟩; subst v)
   | (go_at_call 10; with_reducible refine (p5.out _).mono ?_; rintro e v ⟨rfl, hv⟩; subst v)
   | (go_at_call 10; with_reducible refine (p6.out _).mono ?_; rintro e v ⟨rfl, hv⟩; subst v)
   | (go_at_call 10; with_reducible refine (p7.out _).mono ?_; rintro e v ⟨rfl, hv⟩; subst v)
   | (go_at_call 11; refine (awake_calls _).mono ?_; rintro e v ⟨rfl, hv⟩; subst v))
  all_goals first | (go_ret; exact ⟨rfl, be_refl _⟩) | skip
  all_goals (exfalso; have f1 := f0.out; omega)
end Go.Proofs.Ytdkpohnjcbmnoaa.RatiRisesW

