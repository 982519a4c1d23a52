/- RatiSame: a number is the same as itself, and as no other; NaNs are all one; both noughts are two: for any two numbers by their bits, without a condition. -/
import Derived.Test.YtdkpohnjcbmnoaaRatiBase
namespace Go.Proofs.Ytdkpohnjcbmnoaa.RatiSameW
open Go.RowKit Go.Proofs.YtdkpohnjcbmnoaaKit Go.Proofs.Ytdkpohnjcbmnoaa.RatiBase
set_option linter.unusedVariables false
set_option linter.unusedSimpArgs false
attribute [local go_sem] run_bits run_frombits unary_negf neg_nan
theorem compare_self (n : Int) : compare n n = .eq := by simp
theorem order_self (d : Ieee.Datum) : d.order d = if d.isNaN then none else some .eq := by
  cases d with
  | nan s f => rfl
  | infinity s => cases s <;> rfl
  | number s m i => simp [Ieee.Datum.order, Ieee.Datum.isNaN]
theorem nan_iff (x : Nat) : nanB x = (FloatKind.f64.format.read x).isNaN := by
  unfold nanB Ieee.Format.order
  rw [order_self]
  cases h : (FloatKind.f64.format.read x).isNaN <;> simp
theorem order_nan (x y : Nat) (h : FloatKind.f64.format.order x y = some .eq) : nanB x = false ∧ nanB y = false := by
  rw [nan_iff, nan_iff]
  unfold Ieee.Format.order at h
  revert h
  cases FloatKind.f64.format.read x <;> cases FloatKind.f64.format.read y <;> simp [Ieee.Datum.order, Ieee.Datum.isNaN]
theorem same_self (x : Nat) : sameB x x = true := by unfold sameB; simp
theorem same_comm (x y : Nat) : sameB y x = sameB x y := by
  unfold sameB
  have e : ((y : Int) == (x : Int)) = ((x : Int) == (y : Int)) := Bool.eq_iff_iff.2 ⟨fun h => by simp at h ⊢; exact h.symm, fun h => by simp at h ⊢; exact h.symm⟩
  rw [e, Bool.and_comm]
theorem nat_of (a : Int) (ha : (Lit.int .u64 a).wf = true) : ((a.toNat : Nat) : Int) = a := by
  simp [Lit.wf, IntKind.min, IntKind.max, IntKind.signed, IntKind.bits] at ha
  have h := ha.1
  omega
theorem same_bits (a b : Int) (ha : (Lit.int .u64 a).wf = true) (hb : (Lit.int .u64 b).wf = true) (h : sameB a.toNat b.toNat = true) : a = b ∨ (nanB a.toNat = true ∧ nanB b.toNat = true) := by
  unfold sameB at h
  rw [nat_of a ha, nat_of b hb] at h
  simp at h
  rcases h with h | h
  · exact .inr h
  · exact .inl h
theorem as2 : sameB 9221120237041090561 9218868437227405313 = true := by kernel_rfl
set_option maxHeartbeats 8000000 in
set_option maxRecDepth 100000 in
theorem walkR (a b : Int) (w : World) (ha : (Lit.int .u64 a).wf = true) (hb : (Lit.int .u64 b).wf = true) :
    Calls Try.prog 4 #[.int .u64 a, .int .u64 b] w fun e w' => e = .returned (.bool true) ∧ Below w.heap.size w w' := by
  have F1 := hide (fun h : FloatKind.f64.format.order a.toNat b.toNat = some .eq => order_nan _ _ h)
  have F2 := hide (same_bits a b ha hb)
  have F3 := hide (fun h : a = b => show FloatKind.f64.format.order a.toNat b.toNat ≠ some .eq → nanB a.toNat = true ∧ nanB b.toNat = true from by subst h; intro h; unfold nanB; simp [h])
  clear ha hb
  have s1 := hide (same_calls a.toNat a.toNat)
  have s2 := hide (same_calls a.toNat b.toNat)
  have s3 := hide (same_calls b.toNat a.toNat)
  rw [same_self] at s1
  rw [same_comm] at s3
  have n1 := hide (isnan_calls a.toNat)
  have n2 := hide (isnan_calls b.toNat)
  have q1 := hide (same_calls 0 9223372036854775808)
  rw [as1] at q1
  have q2 := hide (same_calls 9221120237041090561 9218868437227405313)
  rw [as2] at q2
  have hc := hide copy_calls; have hn := hide nan_calls
  go_enter Try.func4, Try.ntmps4
  go_wp2_with (first
   | (go_at_call 13; with_reducible refine (s1.out _).mono ?_; rintro e v ⟨rfl, hv⟩; subst v)
   | (go_at_call 13; with_reducible refine (s2.out _).mono ?_; rintro e v ⟨rfl, hv⟩; subst v)
   | (go_at_call 13; with_reducible refine (s3.out _).mono ?_; rintro e v ⟨rfl, hv⟩; subst v)
   | (go_at_call 13; with_reducible refine (q1.out _).mono ?_; rintro e v ⟨rfl, hv⟩; subst v)
   | (go_at_call 13; with_reducible refine (q2.out _).mono ?_; rintro e v ⟨rfl, hv⟩; subst v)
   | (go_at_call 14; with_reducible refine (n1.out _).mono ?_; rintro e v ⟨rfl, hv⟩; subst v)
   | (go_at_call 14; with_reducible refine (n2.out _).mono ?_; rintro e v ⟨rfl, hv⟩; subst v)
   | (go_at_call 7; with_reducible refine (hc.out _).mono ?_; rintro e v ⟨rfl, hv⟩; subst v)
   | (go_at_call 9; with_reducible refine (hn.out _).mono ?_; rintro e v ⟨rfl, hv⟩; subst v)
   | (go_at_call 11; refine (awake_calls _).mono ?_; rintro e v ⟨rfl, hv⟩; subst v))
  all_goals first | (go_ret; exact ⟨rfl, be_refl _⟩) | skip
  all_goals (exfalso; have f1 := F1.out; have f2 := F2.out; have f3 := F3.out; clear F1 F2 F3; simp_all)
end Go.Proofs.Ytdkpohnjcbmnoaa.RatiSameW

