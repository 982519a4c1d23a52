/- Pools: what the document fixes of them: all of it holds. -/
import Derived.Test.YtlkejpdclnbcoaaPoolGive
import Derived.Test.YtlkejpdclnbcoaaPoolNew
import Derived.Test.YtlkejpdclnbcoaaPoolTake
namespace Go.Proofs.Ytlkejpdclnbcoaa.PoolAwake
open Go.RowKit Go.Proofs.YtlkejpdclnbcoaaKit Go.Proofs.YtlkejpdclnbcoaaW.PrintWords Go.Proofs.YtlkejpdclnbcoaaW.PrintLast Go.Proofs.Ytlkejpdclnbcoaa.PoolBase Go.Proofs.Ytlkejpdclnbcoaa.PoolGive Go.Proofs.Ytlkejpdclnbcoaa.PoolNew Go.Proofs.Ytlkejpdclnbcoaa.PoolTake
attribute [local go_sem] cell_alloc_some cell_alloc2_some cell_alloc3_some cell_alloc4_some
set_option linter.unusedVariables false
set_option linter.unusedSimpArgs false
theorem n2 (w : World) : Calls Try.prog 7 #[.int .i64 2] w fun e W' => ∃ g pb, e = .returned (.pointer (some ⟨g, 0, none⟩)) ∧ Pl w W' g pb [(0, 0, false), (0, 0, false)] := new_calls 2 w (by omega)
theorem frKept {pb k : Nat} {W W' : World} {o : Obj} (h : PoolBase.Fr pb W W') (q : W.heap[k]? = some o) (hne : k ≠ pb) : W'.heap[k]? = some o := (h k (bs_lt q) hne).trans q
theorem frNew {pb : Nat} {W W' : World} {o : Obj} (h : Fr pb (W.alloc o) W') (hp : pb < W.heap.size) : W'.heap[W.heap.size]? = some o := frKept h (bs_new rfl) (Nat.ne_of_gt hp)
theorem pre0 {bs : List (Int × Int × Bool)} : ∀ j, j < 0 → ∃ b, bs[j]? = some b ∧ b.2.2 = true := fun j hj => absurd hj (by omega)
section
variable (w W : World) (g pb : Nat)
theorem t1 (h : Pl w W g pb [(0, 0, false), (0, 0, false)]) : Calls Try.prog 10 #[.pointer (some ⟨g, 0, none⟩), .agg #[.int .i64 5, .int .i64 0, .slice none 0 0, .int .i64 0, .int .i64 0, .bool false]] W fun e W' => e = .returned (.tuple #[.int .i64 0, .int .i64 1, .bool true]) ∧ Pl w W' g pb [(5, 1, true), (0, 0, false)] ∧ Fr pb W W' := take_yes 5 0 0 0 w W g pb _ h rfl pre0 (by omega) (by omega)
theorem t2 (h : Pl w W g pb [(5, 1, true), (0, 0, false)]) : Calls Try.prog 10 #[.pointer (some ⟨g, 0, none⟩), .agg #[.int .i64 6, .int .i64 0, .slice none 0 0, .int .i64 0, .int .i64 0, .bool false]] W fun e W' => e = .returned (.tuple #[.int .i64 1, .int .i64 1, .bool true]) ∧ Pl w W' g pb [(5, 1, true), (6, 1, true)] ∧ Fr pb W W' := take_yes 6 1 0 0 w W g pb _ h rfl (fun j hj => by obtain rfl : j = 0 := (by omega); exact ⟨_, rfl, rfl⟩) (by omega) (by omega)
theorem t3 (h : Pl w W g pb [(5, 1, true), (6, 1, true)]) : Calls Try.prog 10 #[.pointer (some ⟨g, 0, none⟩), .agg #[.int .i64 0, .int .i64 0, .slice none 0 0, .int .i64 0, .int .i64 0, .bool false]] W fun e W' => e = .returned (.tuple #[.int .i64 0, .int .i64 0, .bool false]) ∧ Pl w W' g pb [(5, 1, true), (6, 1, true)] ∧ Below W.heap.size W W' := take_no 0 w W g pb _ h (fun j hj => by rcases (show j = 0 ∨ j = 1 by simp at hj; omega) with rfl | rfl <;> exact ⟨_, rfl, rfl⟩) (by simp)
theorem r1 (h : Pl w W g pb [(5, 1, true), (6, 1, true)]) : Calls Try.prog 11 #[.pointer (some ⟨g, 0, none⟩), .int .i64 0, .int .i64 1] W fun e W' => e = .returned (.tuple #[.agg #[.int .i64 5, .int .i64 0, .slice none 0 0, .int .i64 0, .int .i64 0, .bool false], .bool true]) ∧ Pl w W' g pb [(5, 1, true), (6, 1, true)] ∧ Below W.heap.size W W' := read_yes 0 1 (5, 1, true) w W g pb _ h (by omega) rfl rfl rfl
theorem g1 (h : Pl w W g pb [(5, 1, true), (6, 1, true)]) : Calls Try.prog 13 #[.pointer (some ⟨g, 0, none⟩), .int .i64 0] W fun e W' => e = .returned (.bool true) ∧ Pl w W' g pb [(0, 1, false), (6, 1, true)] ∧ Fr pb W W' := give_yes 0 (5, 1, true) w W g pb _ h (by omega) rfl rfl
theorem g2 (h : Pl w W g pb [(0, 1, false), (6, 1, true)]) : Calls Try.prog 13 #[.pointer (some ⟨g, 0, none⟩), .int .i64 0] W fun e W' => e = .returned (.bool false) ∧ W' = W := give_no 0 w W g pb _ h (.inr ⟨(0, 1, false), by omega, rfl, rfl⟩)
theorem r2 (h : Pl w W g pb [(0, 1, false), (6, 1, true)]) : Calls Try.prog 11 #[.pointer (some ⟨g, 0, none⟩), .int .i64 0, .int .i64 1] W fun e W' => e = .returned (.tuple #[.agg #[.int .i64 0, .int .i64 0, .slice none 0 0, .int .i64 0, .int .i64 0, .bool false], .bool false]) ∧ Pl w W' g pb [(0, 1, false), (6, 1, true)] ∧ Below W.heap.size W W' := read_no 0 1 w W g pb _ h (.inr ⟨(0, 1, false), by omega, rfl, .inl rfl⟩)
theorem t4 (h : Pl w W g pb [(0, 1, false), (6, 1, true)]) : Calls Try.prog 10 #[.pointer (some ⟨g, 0, none⟩), .agg #[.int .i64 7, .int .i64 0, .slice none 0 0, .int .i64 0, .int .i64 0, .bool false]] W fun e W' => e = .returned (.tuple #[.int .i64 0, .int .i64 2, .bool true]) ∧ Pl w W' g pb [(7, 2, true), (6, 1, true)] ∧ Fr pb W W' := take_yes 7 0 0 1 w W g pb _ h rfl pre0 (by omega) (by omega)
theorem r3 (h : Pl w W g pb [(7, 2, true), (6, 1, true)]) : Calls Try.prog 11 #[.pointer (some ⟨g, 0, none⟩), .int .i64 0, .int .i64 1] W fun e W' => e = .returned (.tuple #[.agg #[.int .i64 0, .int .i64 0, .slice none 0 0, .int .i64 0, .int .i64 0, .bool false], .bool false]) ∧ Pl w W' g pb [(7, 2, true), (6, 1, true)] ∧ Below W.heap.size W W' := read_no 0 1 w W g pb _ h (.inr ⟨(7, 2, true), by omega, rfl, .inr (by decide)⟩)
theorem e0 (h : Pl w W g pb [(7, 2, true), (6, 1, true)]) : Calls Try.prog 14 #[.pointer (some ⟨g, 0, none⟩), .int .i64 0] W fun e W' => e = .returned (.int .i64 2) ∧ W' = W := gen_calls 0 2 w W g pb _ h (.inr ⟨(7, 2, true), by omega, rfl, rfl⟩)
theorem e9 (h : Pl w W g pb [(7, 2, true), (6, 1, true)]) : Calls Try.prog 14 #[.pointer (some ⟨g, 0, none⟩), .int .i64 9] W fun e W' => e = .returned (.int .i64 0) ∧ W' = W := gen_calls 9 0 w W g pb _ h (.inl ⟨.inr (by simp), rfl⟩)
theorem f0 (h : Pl w W g pb [(7, 2, true), (6, 1, true)]) : Calls Try.prog 15 #[.pointer (some ⟨g, 0, none⟩)] W fun e W' => e = .returned (.int .i64 0) ∧ Pl w W' g pb [(7, 2, true), (6, 1, true)] ∧ Below W.heap.size W W' := free_calls w W g pb _ h (by simp)
end
set_option maxHeartbeats 8000000 in
set_option maxRecDepth 100000 in
theorem awake_calls (w : World) : Calls Try.prog 12 #[] w fun e w' => e = .returned (.bool true) ∧ Below w.heap.size w w' := by
  have HN := hide (n2 w)
  go_enter Try.func12, Try.ntmps12
  go_wp2_with (first
    | (go_at_call 7; with_reducible refine (HN.out).mono ?_; rintro e W1 ⟨g, pb, rfl, P⟩; have P1 := hide P; clear P)
    | (go_at_call 10; with_reducible refine (t1 w _ g pb P1.out).mono ?_; rintro e W2 ⟨rfl, P, _⟩; have P2 := hide P; clear P)
    | (go_at_call 10; with_reducible refine (t2 w _ g pb P2.out).mono ?_; rintro e W3 ⟨rfl, P, _⟩; have P3 := hide P; clear P)
    | (go_at_call 10; with_reducible refine (t3 w _ g pb P3.out).mono ?_; rintro e W4 ⟨rfl, P, _⟩; have P4 := hide P; clear P)
    | (go_at_call 11; with_reducible refine (r1 w _ g pb P4.out).mono ?_; rintro e W5 ⟨rfl, P, _⟩; have P5 := hide P; clear P)
    | (go_at_call 13; (with_reducible refine (g1 w _ g pb ?hp).mono ?_); (case hp => exact P5.out.alloc _); rintro e W6 ⟨rfl, P, F⟩; have P6 := hide P; have Q6 := hide (frNew F (bs_lt P5.out.rows)); clear P F)
    | (go_at_call 13; with_reducible refine (g2 w _ g pb P6.out).mono ?_; rintro e v ⟨rfl, hv⟩; subst v)
    | (go_at_call 11; with_reducible refine (r2 w _ g pb P6.out).mono ?_; rintro e W7 ⟨rfl, P, B⟩; have P7 := hide P; have Q7 := hide (bs_below B (bs_lt Q6.out) Q6.out); clear P B)
    | (go_at_call 10; (with_reducible refine (t4 w _ g pb ?hp).mono ?_); (case hp => exact P7.out.alloc _); rintro e W8 ⟨rfl, P, F⟩; have P8 := hide P; have Q8 := hide (frKept F (bs_alloc Q7.out) (Nat.ne_of_gt (bs_lt P5.out.rows))); clear P F)
    | (go_at_call 11; with_reducible refine (r3 w _ g pb P8.out).mono ?_; rintro e W9 ⟨rfl, P, B⟩; have P9 := hide P; have c11 := (bs_cell (bs_below B (bs_lt Q8.out) Q8.out) 0).trans rfl; clear P B)
    | (go_at_call 14; (with_reducible refine (e0 w _ g pb ?hp).mono ?_); (case hp => exact P9.out.alloc _); rintro e v ⟨rfl, hv⟩; subst v)
    | (go_at_call 14; (with_reducible refine (e9 w _ g pb ?hp).mono ?_); (case hp => exact P9.out.alloc _); rintro e v ⟨rfl, hv⟩; subst v)
    | (go_at_call 15; (with_reducible refine (f0 w _ g pb ?hp).mono ?_); (case hp => exact P9.out.alloc _); rintro e W10 ⟨rfl, P, _⟩; have P10 := hide P; clear P))
  trace_state
  go_ret
  exact ⟨rfl, P10.out.below⟩
end Go.Proofs.Ytlkejpdclnbcoaa.PoolAwake

