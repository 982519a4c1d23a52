/- PoolGens: each time that a buffer is taken it is of another generation; what was told of it ahead reads nothing any more: however often it is taken, without a condition. -/
import Derived.Test.YtlkejpdclnbcoaaPoolAwake
namespace Go.Proofs.Ytlkejpdclnbcoaa.PoolGensW
open Go.RowKit Go.Proofs.YtlkejpdclnbcoaaKit Go.Proofs.YtlkejpdclnbcoaaW.PrintWords Go.Proofs.YtlkejpdclnbcoaaW.PrintLast Go.Proofs.Ytlkejpdclnbcoaa.PoolBase Go.Proofs.Ytlkejpdclnbcoaa.PoolGive Go.Proofs.Ytlkejpdclnbcoaa.PoolNew Go.Proofs.Ytlkejpdclnbcoaa.PoolTake Go.Proofs.Ytlkejpdclnbcoaa.PoolAwake
attribute [local go_sem] cell_alloc_some cell_alloc2_some cell_alloc3_some cell_alloc4_some
set_option linter.unusedVariables false
set_option linter.unusedSimpArgs false
theorem n1 (w : World) : Calls Try.prog 7 #[.int .i64 1] w fun e W' => ∃ g pb, e = .returned (.pointer (some ⟨g, 0, none⟩)) ∧ Pl w W' g pb [(0, 0, false)] := new_calls 1 w (by omega)
section
variable (w W : World) (g pb : Nat) (m : Int) (h0 : 0 ≤ m) (h1 : m ≤ 40)
theorem tk (h : Pl w W g pb [(0, m, false)]) (h0 : 0 ≤ m) (h1 : m ≤ 40) : Calls Try.prog 10 #[.pointer (some ⟨g, 0, none⟩), .agg #[.int .i64 (m + 1), .int .i64 0, .slice none 0 0, .int .i64 0, .int .i64 0, .bool false]] W fun e W' => e = .returned (.tuple #[.int .i64 0, .int .i64 (m + 1), .bool true]) ∧ Pl w W' g pb [(m + 1, m + 1, true)] ∧ Fr pb W W' := take_yes (m + 1) 0 0 m w W g pb _ h rfl pre0 (by omega) (by omega)
theorem ry (h : Pl w W g pb [(m + 1, m + 1, true)]) : Calls Try.prog 11 #[.pointer (some ⟨g, 0, none⟩), .int .i64 0, .int .i64 (m + 1)] W fun e W' => e = .returned (.tuple #[.agg #[.int .i64 (m + 1), .int .i64 0, .slice none 0 0, .int .i64 0, .int .i64 0, .bool false], .bool true]) ∧ Pl w W' g pb [(m + 1, m + 1, true)] ∧ Below W.heap.size W W' := read_yes 0 (m + 1) (m + 1, m + 1, true) w W g pb _ h (by omega) rfl rfl rfl
theorem rn (k : Int) (hk : k ≠ m + 1) (h : Pl w W g pb [(m + 1, m + 1, true)]) : Calls Try.prog 11 #[.pointer (some ⟨g, 0, none⟩), .int .i64 0, .int .i64 k] W fun e W' => e = .returned (.tuple #[.agg #[.int .i64 (0), .int .i64 0, .slice none 0 0, .int .i64 0, .int .i64 0, .bool false], .bool false]) ∧ Pl w W' g pb [(m + 1, m + 1, true)] ∧ Below W.heap.size W W' := read_no 0 k w W g pb _ h (.inr ⟨(m + 1, m + 1, true), by omega, rfl, .inr (fun e => hk e.symm)⟩)
theorem gv (h : Pl w W g pb [(m + 1, m + 1, true)]) : Calls Try.prog 13 #[.pointer (some ⟨g, 0, none⟩), .int .i64 0] W fun e W' => e = .returned (.bool true) ∧ Pl w W' g pb [(0, m + 1, false)] ∧ Fr pb W W' := give_yes 0 (m + 1, m + 1, true) w W g pb _ h (by omega) rfl rfl
theorem ro (k : Int) (h : Pl w W g pb [(0, m, false)]) : Calls Try.prog 11 #[.pointer (some ⟨g, 0, none⟩), .int .i64 0, .int .i64 k] W fun e W' => e = .returned (.tuple #[.agg #[.int .i64 (0), .int .i64 0, .slice none 0 0, .int .i64 0, .int .i64 0, .bool false], .bool false]) ∧ Pl w W' g pb [(0, m, false)] ∧ Below W.heap.size W W' := read_no 0 k w W g pb _ h (.inr ⟨(0, m, false), by omega, rfl, .inl rfl⟩)
theorem ge (h : Pl w W g pb [(0, m, false)]) : Calls Try.prog 14 #[.pointer (some ⟨g, 0, none⟩), .int .i64 0] W fun e W' => e = .returned (.int .i64 m) ∧ W' = W := gen_calls 0 m w W g pb _ h (.inr ⟨(0, m, false), by omega, rfl, rfl⟩)
theorem fe (h : Pl w W g pb [(0, m, false)]) : Calls Try.prog 15 #[.pointer (some ⟨g, 0, none⟩)] W fun e W' => e = .returned (.int .i64 1) ∧ Pl w W' g pb [(0, m, false)] ∧ Below W.heap.size W W' := free_calls w W g pb _ h (by simp)
end
theorem and31 (n : Int) : ∃ N : Int, Go.bits .and .i64 n 31 = N ∧ 0 ≤ N ∧ N ≤ 31 := by
  have h : 0 ≤ Go.bits .and .i64 n 31 ∧ Go.bits .and .i64 n 31 ≤ 31 := and_range 5 (by omega) n
  exact ⟨_, rfl, h.1, h.2⟩
set_option maxHeartbeats 8000000 in
set_option maxRecDepth 100000 in
theorem walkR (n : Int) (w : World) (_ : (Lit.int .i64 n).wf = true) :
    Calls Try.prog 4 #[.int .i64 n] w fun e w' => e = .returned (.bool true) ∧ Below w.heap.size w w' := by
  have HN := hide (n1 w)
  obtain ⟨N, hN, N0, N1⟩ := and31 n
  have hw1 : wrap64 (N + 1) = N + 1 := by unfold wrap64; omega
  have hw2 : wrap64 (N + 1 + 1) = N + 1 + 1 := by unfold wrap64; omega
  have HB := hide (And.intro N0 N1)
  clear N0 N1
  go_enter Try.func4, Try.ntmps4
  go_wp2_with (go_at_call 7; with_reducible refine (HN.out).mono ?_; rintro e W1 ⟨g, pb, rfl, P⟩; have P1 := hide P; clear P)
  rw [hw1]
  go_loopw [4] (fun v4 wr => ∃ m : Int, 0 ≤ m ∧ m ≤ N + 1 ∧ v4 = .int .i64 (m + 1) ∧ Pl w wr g pb [(0, m, false)]) (fun v4 _ => (N + 2 - intOf v4).toNat)
  case atStart => exact ⟨0, by omega, by have := HB.out; omega, rfl, P1.out⟩
  case round =>
    obtain ⟨m, m0, m1, rfl, hP⟩ := hrel
    have P2 := hide hP
    have M := hide (And.intro m0 m1)
    clear hP m0 m1
    have hm : wrap64 (m + 1 + 1) = m + 1 + 1 := by have := HB.out; have := M.out; unfold wrap64; omega
    have HM := hide hm
    by_cases hgo : m ≤ N
    · have p1 : (m + 1 ≤ N + 1) = True := eq_true (by omega)
      have HGO := hide hgo
      clear hgo
      go_wp2_with (go_at_call 10; with_reducible refine (tk w _ g pb m P2.out M.out.1 (by have := HB.out; have := M.out; omega)).mono ?_; rintro e W3 ⟨rfl, P, _⟩; have P3 := hide P; clear P)
      go_loopw [8] (fun v8 wq => ∃ k : Int, 0 ≤ k ∧ k ≤ N + 3 ∧ v8 = .int .i64 k ∧ Pl w wq g pb [(m + 1, m + 1, true)]) (fun v8 _ => (N + 3 - intOf v8).toNat)
      case atStart => exact ⟨0, by omega, by have := HB.out; omega, rfl, P3.out⟩
      case round =>
        obtain ⟨k, k0, k1, rfl, hP⟩ := hrel
        have P4 := hide hP
        have K := hide (And.intro k0 k1)
        clear hP k0 k1
        have hk1 : wrap64 (k + 1) = k + 1 := by have := HB.out; have := K.out; unfold wrap64; omega
        have HK := hide hk1
        by_cases hko : k ≤ N + 1 + 1
        · have q1 : (k ≤ N + 1 + 1) = True := eq_true hko
          by_cases hki : k = m + 1
          · subst hki
            go_wp2_with (go_at_call 11; with_reducible refine (ry w _ g pb m P4.out).mono ?_; rintro e W5 ⟨rfl, P, _⟩; have P5 := hide P; clear P)
            refine ⟨⟨m + 1 + 1, by have := K.out; omega, by omega, by rw [HK.out], P5.out.alloc _⟩, ?_⟩
            rw [HK.out]; simp only [intOf]; have := of_eq_true q1; omega
          · have hk2 : (k == m + 1) = false := by simpa using hki
            have hki2 : (k = m + 1) = False := eq_false hki
            have HKI := hide hki
            clear hki
            go_wp2_with (go_at_call 11; with_reducible refine (rn w _ g pb m k HKI.out P4.out).mono ?_; rintro e W5 ⟨rfl, P, _⟩; have P5 := hide P; clear P)
            refine ⟨⟨k + 1, by have := K.out; omega, by omega, by rw [HK.out], P5.out.alloc _⟩, ?_⟩
            rw [HK.out]; simp only [intOf]; have := of_eq_true q1; omega
        · have q1 : (k ≤ N + 1 + 1) = False := eq_false hko
          go_wp2_with (first
            | (go_at_call 13; with_reducible refine (gv w _ g pb m P4.out).mono ?_; rintro e W5 ⟨rfl, P, _⟩; have P5 := hide P; clear P)
            | (go_at_call 11; with_reducible refine (ro w _ g pb (m + 1) (m + 1) P5.out).mono ?_; rintro e W6 ⟨rfl, P, _⟩; have P6 := hide P; clear P))
          refine ⟨⟨m + 1, by have := M.out; omega, by have := HGO.out; omega, by rw [HM.out], P6.out.alloc _⟩, ?_⟩
          rw [HM.out]; simp only [intOf]; have := HGO.out; omega
    · have p1 : (m + 1 ≤ N + 1) = False := eq_false (by omega)
      have hmn : m = N + 1 := by have := M.out; omega
      subst hmn
      go_wp2_with (first
        | (go_at_call 14; with_reducible refine (ge w _ g pb (N + 1) P2.out).mono ?_; rintro e v ⟨rfl, hv⟩; subst v)
        | (go_at_call 15; with_reducible refine (fe w _ g pb (N + 1) P2.out).mono ?_; rintro e W7 ⟨rfl, P, _⟩; have P7 := hide P; clear P)
        | (go_at_call 12; refine (awake_calls _).mono ?_; rintro e W8 ⟨rfl, hb8⟩))
      go_ret
      exact ⟨rfl, be_call hb8 P7.out.below.size P7.out.below⟩
end Go.Proofs.Ytlkejpdclnbcoaa.PoolGensW

