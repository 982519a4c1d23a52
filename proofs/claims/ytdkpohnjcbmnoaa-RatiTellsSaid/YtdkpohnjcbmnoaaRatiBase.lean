/- Shares: what the functions of the package rati, and those of Go's library that they call, give, by the bits of their floats. -/
import Derived.WalkLawsBesides
import Derived.Test.YtdkpohnjcbmnoaaKit
import Derived.Test.YtdkpohnjcbmnoaaProg
namespace Go.Proofs.Ytdkpohnjcbmnoaa.RatiBase
open Go.RowKit Go.Proofs.YtdkpohnjcbmnoaaKit
set_option linter.unusedVariables false
set_option linter.unusedSimpArgs false

theorem run_bits (b : Nat) (w : World) : (callFunc 16 #[.float .f64 b]).run Try.prog w = .ok (.value (.int .u64 b)) w := by
  rw [run_callFunc_extern (e := Extern.MathFloatBits.float64bits) Try.func16 (by kernel_rfl) (by kernel_rfl) (by kernel_rfl) (by kernel_rfl)]
  rfl
theorem run_frombits (n : Int) (w : World) : (callFunc 12 #[.int .u64 n]).run Try.prog w = .ok (.value (.float .f64 n.toNat)) w := by
  rw [run_callFunc_extern (e := Extern.MathFloatBits.float64frombits) Try.func12 (by kernel_rfl) (by kernel_rfl) (by kernel_rfl) (by kernel_rfl)]
  rfl
theorem unary_negf (b : Nat) : Op.unary .neg (.float .f64 b) = pure (.float .f64 (Op.negFloat .f64 b)) := rfl
theorem neg_nan : Op.negFloat .f64 9221120237041090561 = 18444492273895866369 := by kernel_rfl
attribute [local go_sem] run_bits run_frombits unary_negf neg_nan
theorem nan_calls (w : World) : Calls Try.prog 9 #[] w fun e w' => e = .returned (.float .f64 9221120237041090561) ∧ w' = w := by
  go_enter Try.func9, Try.ntmps9
  go_wp2
  go_ret
  exact ⟨rfl, rfl⟩
theorem copy_calls (w : World) : Calls Try.prog 7 #[.float .f64 0, .float .f64 13830554455654793216] w fun e w' => e = .returned (.float .f64 9223372036854775808) ∧ w' = w := by
  go_enter Try.func7, Try.ntmps7
  go_wp2
  go_ret
  exact ⟨by kernel_rfl, rfl⟩
theorem inf_calls (w : World) : Calls Try.prog 8 #[.int .i64 1] w fun e w' => e = .returned (.float .f64 9218868437227405312) ∧ w' = w := by
  go_enter Try.func8, Try.ntmps8
  go_wp2
  go_ret
  exact ⟨rfl, rfl⟩
theorem ninf_calls (w : World) : Calls Try.prog 8 #[.int .i64 (-1)] w fun e w' => e = .returned (.float .f64 18442240474082181120) ∧ w' = w := by
  go_enter Try.func8, Try.ntmps8
  go_wp2
  go_ret
  exact ⟨rfl, rfl⟩
def nanB (b : Nat) : Bool := FloatKind.f64.format.order b b != some .eq
theorem isnan_calls (b : Nat) (w : World) : Calls Try.prog 14 #[.float .f64 b] w fun e w' => e = .returned (.bool (nanB b)) ∧ w' = w := by
  go_enter Try.func14, Try.ntmps14
  go_wp2
  go_ret
  exact ⟨rfl, rfl⟩
def held (n lo hi : Int) : Int := if hi < (if n < lo then lo else n) then hi else (if n < lo then lo else n)
theorem held_calls (n lo hi : Int) (w : World) : Calls Try.prog 18 #[.int .i64 n, .int .i64 lo, .int .i64 hi] w fun e w' => e = .returned (.int .i64 (held n lo hi)) ∧ w' = w := by
  go_enter Try.func18, Try.ntmps18
  go_wp2
  all_goals go_ret
  all_goals refine ⟨?_, rfl⟩
  all_goals simp [held, *]
  all_goals (intros; omega)
theorem heldR_calls (n lo hi : Int) (w : World) : Calls Try.prog 19 #[.int .i64 n, .int .i64 lo, .int .i64 hi] w fun e w' => e = .returned (.int .i64 (held n lo hi)) ∧ w' = w := by
  go_enter Try.func19, Try.ntmps19
  go_wp2
  all_goals go_ret
  all_goals refine ⟨?_, rfl⟩
  all_goals simp [held, *]
  all_goals (intros; omega)
def sameB (a b : Nat) : Bool := (nanB a && nanB b) || ((a : Int) == (b : Int))
theorem same_calls (a b : Nat) (w : World) : Calls Try.prog 13 #[.float .f64 a, .float .f64 b] w fun e w' => e = .returned (.bool (sameB a b)) ∧ w' = w := by
  have h1 := hide (isnan_calls a); have h2 := hide (isnan_calls b)
  go_enter Try.func13, Try.ntmps13
  go_wp2_with (first | (go_at_call 14; with_reducible refine (h1.out _).mono ?_; rintro e v1 ⟨rfl, rfl⟩) | (go_at_call 14; with_reducible refine (h2.out _).mono ?_; rintro e v2 ⟨rfl, rfl⟩))
  all_goals go_ret
  all_goals refine ⟨?_, rfl⟩
  all_goals simp_all [sameB]
def leB (r : Nat) : Bool := FloatKind.f64.format.order r 0 == some .lt || FloatKind.f64.format.order r 0 == some .eq
def geB (r : Nat) : Bool := FloatKind.f64.format.order r 4607182418800017408 == some .gt || FloatKind.f64.format.order r 4607182418800017408 == some .eq
def gtB (r : Nat) : Bool := FloatKind.f64.format.order r 4607182418800017408 == some .gt
def timesV (m : Int) (r : Nat) : Option Int := (FloatKind.f64.format.mul r (floatOfInt .f64 m)).bind fun p => floatToIntVal .f64 p .i64
def partV (n : Int) (r : Nat) : Option Int :=
  if nanB r = true then some (held n 0 10000 / 2) else if leB r = true then some 0 else if geB r = true then some (held n 0 10000) else
    (timesV (held n 0 10000) r).bind fun k => some (held k 0 (held n 0 10000))
theorem part_calls (n : Int) (r : Nat) (v : Int) (w : World) (h : partV n r = some v) : Calls Try.prog 10 #[.int .i64 n, .float .f64 r] w fun e w' => e = .returned (.int .i64 v) ∧ w' = w := by
  have h1 := hide (isnan_calls r); have h2 := hide (held_calls n 0 10000)
  unfold partV at h
  obtain ⟨m, hm⟩ : ∃ m, m = held n 0 10000 := ⟨_, rfl⟩
  have hm2 : 0 ≤ m ∧ m ≤ 10000 := by subst hm; unfold held; repeat' split <;> omega
  rw [← hm] at h2 h
  clear hm
  split at h
  · rename_i hn
    obtain rfl := Option.some.inj h
    clear h
    go_enter Try.func10, Try.ntmps10
    go_wp2_with (first | (go_at_call 18; with_reducible refine (h2.out _).mono ?_; rintro e v1 ⟨rfl, rfl⟩) | (go_at_call 14; with_reducible refine (h1.out _).mono ?_; rintro e v2 ⟨rfl, rfl⟩))
    go_ret
    exact ⟨rfl, rfl⟩
  · rename_i hn
    split at h
    · rename_i hl
      obtain rfl := Option.some.inj h
      clear h
      unfold leB at hl
      go_enter Try.func10, Try.ntmps10
      go_wp2_with (first | (go_at_call 18; with_reducible refine (h2.out _).mono ?_; rintro e v1 ⟨rfl, rfl⟩) | (go_at_call 14; with_reducible refine (h1.out _).mono ?_; rintro e v2 ⟨rfl, rfl⟩))
      go_ret
      exact ⟨rfl, rfl⟩
    · rename_i hl
      split at h
      · rename_i hg
        obtain rfl := Option.some.inj h
        clear h
        unfold leB at hl
        unfold geB at hg
        go_enter Try.func10, Try.ntmps10
        go_wp2_with (first | (go_at_call 18; with_reducible refine (h2.out _).mono ?_; rintro e v1 ⟨rfl, rfl⟩) | (go_at_call 14; with_reducible refine (h1.out _).mono ?_; rintro e v2 ⟨rfl, rfl⟩))
        go_ret
        exact ⟨rfl, rfl⟩
      · rename_i hg
        obtain ⟨k, hk, h⟩ := Option.bind_eq_some_iff.mp h
        obtain rfl := Option.some.inj h
        obtain ⟨p, hp, hq⟩ := Option.bind_eq_some_iff.mp hk
        clear h hk
        have h3 := hide (held_calls k 0 m)
        unfold leB at hl
        unfold geB at hg
        have L1 : ∀ w : World, (binOp .mul 22 (.float .f64 r) (.float .f64 (floatOfInt .f64 m))).run Try.prog w = .ok (.float .f64 p) w := fun w => run_float_arith w .mul 22 .f64 r (floatOfInt .f64 m) p hp
        have L2 : ∀ w : World, (convert 22 3 (.float .f64 p)).run Try.prog w = .ok (.int .i64 k) w := fun w => run_convert_float_int w 22 3 .f64 .i64 p k (by kernel_rfl) (by kernel_rfl) hq
        clear hp hq
        have L3 : ∀ w : World, (convert 3 22 (.int .i64 m)).run Try.prog w = .ok (.float .f64 (floatOfInt .f64 m)) w := fun w => run_convert_int_float w 3 22 .i64 .f64 m (by kernel_rfl) (by kernel_rfl)
        go_enter Try.func10, Try.ntmps10
        go_wp2_with (first | (go_at_call 18; with_reducible refine (h2.out _).mono ?_; rintro e v1 ⟨rfl, rfl⟩) | (go_at_call 18; with_reducible refine (h3.out _).mono ?_; rintro e v3 ⟨rfl, rfl⟩) | (go_at_call 14; with_reducible refine (h1.out _).mono ?_; rintro e v2 ⟨rfl, rfl⟩))
        go_ret
        exact ⟨rfl, rfl⟩
theorem ap0 : partV 9 9221120237041090561 = some 4 := by kernel_rfl
theorem ap1 : partV 9 9223372036854775808 = some 0 := by kernel_rfl
theorem ap2 : partV 9 9218868437227405312 = some 9 := by kernel_rfl
theorem ap3 : partV 10 4598175219545276416 = some 2 := by kernel_rfl
theorem ap4 : partV 20000 4607182418800017408 = some 10000 := by kernel_rfl
theorem as0 : sameB 9221120237041090561 18444492273895866369 = true := by kernel_rfl
theorem as1 : sameB 0 9223372036854775808 = false := by kernel_rfl
theorem ah0 : held 5 7 6 = 6 := by kernel_rfl
theorem awake_calls (w : World) : Calls Try.prog 11 #[] w fun e w' => e = .returned (.bool true) ∧ w' = w := by
  have hc := hide copy_calls; have hn := hide nan_calls; have hi := hide inf_calls
  have p0 := hide (fun w => part_calls 9 9221120237041090561 4 w ap0)
  have p1 := hide (fun w => part_calls 9 9223372036854775808 0 w ap1)
  have p2 := hide (fun w => part_calls 9 9218868437227405312 9 w ap2)
  have p3 := hide (fun w => part_calls 10 4598175219545276416 2 w ap3)
  have p4 := hide (fun w => part_calls 20000 4607182418800017408 10000 w ap4)
  have q0 := hide (same_calls 9221120237041090561 18444492273895866369)
  have q1 := hide (same_calls 0 9223372036854775808)
  rw [as0] at q0
  rw [as1] at q1
  have g0 := hide (held_calls 5 7 6)
  rw [ah0] at g0
  go_enter Try.func11, Try.ntmps11
  go_wp2_with (first
   | (go_at_call 7; with_reducible refine (hc.out _).mono ?_; rintro e v ⟨rfl, rfl⟩)
   | (go_at_call 9; with_reducible refine (hn.out _).mono ?_; rintro e v ⟨rfl, rfl⟩)
   | (go_at_call 8; with_reducible refine (hi.out _).mono ?_; rintro e v ⟨rfl, rfl⟩)
   | (go_at_call 10; with_reducible refine (p0.out _).mono ?_; rintro e v ⟨rfl, rfl⟩)
   | (go_at_call 10; with_reducible refine (p1.out _).mono ?_; rintro e v ⟨rfl, rfl⟩)
   | (go_at_call 10; with_reducible refine (p2.out _).mono ?_; rintro e v ⟨rfl, rfl⟩)
   | (go_at_call 10; with_reducible refine (p3.out _).mono ?_; rintro e v ⟨rfl, rfl⟩)
   | (go_at_call 10; with_reducible refine (p4.out _).mono ?_; rintro e v ⟨rfl, rfl⟩)
   | (go_at_call 13; with_reducible refine (q0.out _).mono ?_; rintro e v ⟨rfl, rfl⟩)
   | (go_at_call 13; with_reducible refine (q1.out _).mono ?_; rintro e v ⟨rfl, rfl⟩)
   | (go_at_call 18; with_reducible refine (g0.out _).mono ?_; rintro e v ⟨rfl, rfl⟩))
  go_ret
  exact ⟨rfl, rfl⟩
theorem fresh_eq {P : Program} {f : FuncId} {args : Array Value} {v : Value} {w : World} {x : Ext w} (h : Calls P f args x.w' fun e w' => e = .returned v ∧ w' = x.w') :
    Calls P f args x.w' fun e w'' => e = .returned v ∧ ∃ y : Ext w, w'' = y.w' :=
  h.mono fun _ _ ⟨he, hb⟩ => ⟨he, x, hb⟩
end Go.Proofs.Ytdkpohnjcbmnoaa.RatiBase

