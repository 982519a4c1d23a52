/- RatiTells: any share of any number, any number held, and any two numbers are as the document says: for any numbers and any shares by their bits, without a condition. -/
import Derived.Test.YtdkpohnjcbmnoaaRatiBase
import Derived.Test.YtdkpohnjcbmnoaaRatiTellsMath
namespace Go.Proofs.Ytdkpohnjcbmnoaa.RatiTellsW
open Go.RowKit Go.Proofs.YtdkpohnjcbmnoaaKit Go.Proofs.Ytdkpohnjcbmnoaa.RatiBase Go.Proofs.Ytdkpohnjcbmnoaa.RatiMath Go.Proofs.Ytdkpohnjcbmnoaa.RatiTellsMath
set_option linter.unusedVariables false
set_option linter.unusedSimpArgs false
attribute [local go_sem] run_bits run_frombits unary_negf neg_nan
theorem order_some (r y m : Nat) (i : Int) (s : Bool) (hn : nanB r ≠ true) (hy : Ieee.double.read y = .number s m i) : ∃ o, FloatKind.f64.format.order r y = some o := by
  have h : FloatKind.f64.format.order r r = some .eq := by unfold nanB at hn; simpa using hn
  change (Ieee.double.read r).order (Ieee.double.read r) = some .eq at h
  show ∃ o, (Ieee.double.read r).order (Ieee.double.read y) = some o
  rw [hy]
  cases hd : Ieee.double.read r with
  | nan s f => rw [hd] at h; cases h
  | infinity s => exact ⟨_, rfl⟩
  | number s m i => exact ⟨_, rfl⟩
theorem above (r : Nat) (hn : nanB r ≠ true) (hl : leB r ≠ true) : FloatKind.f64.format.order r 0 = some .gt := by
  obtain ⟨o, ho⟩ := order_some r 0 0 (-1074) false hn (by kernel_rfl)
  unfold leB at hl
  rw [ho] at hl ⊢
  cases o <;> simp_all
theorem within (r : Nat) (hn : nanB r ≠ true) : (geB r = true ∧ gtB r = true) ∨ (geB r = true ∧ gtB r = false ∧ FloatKind.f64.format.order r 4607182418800017408 = some .eq) ∨ (geB r = false ∧ gtB r = false ∧ FloatKind.f64.format.order r 4607182418800017408 ≠ some .gt) := by
  obtain ⟨o, ho⟩ := order_some r 4607182418800017408 4503599627370496 (-52) false hn (by kernel_rfl)
  unfold geB gtB
  rw [ho]
  cases o <;> simp
/-- What both packages say of a share. -/
inductive Share (n : Int) (r : Nat) (v : Int) : Prop where
  | nan (h : nanB r = true) (e : v = held n 0 10000 / 2)
  | low (h : nanB r = false) (l : leB r = true) (e : v = 0)
  | high (h : nanB r = false) (l : leB r = false) (g : gtB r = true) (e : v = held n 0 10000)
  | mid (k : Nat) (h : nanB r = false) (l : leB r = false) (g : gtB r = false) (t : timesV (held n 0 10000) r = some (k : Int)) (e : v = if held n 0 10000 < (k : Int) then held n 0 10000 else (k : Int))
theorem share (n : Int) (r : Nat) : ∃ v, partV n r = some v ∧ Share n r v := by
  have hh : ∃ m : Nat, held n 0 10000 = (m : Int) ∧ m ≤ 10000 := ⟨(held n 0 10000).toNat, by unfold held; repeat' split <;> omega, by unfold held; repeat' split <;> omega⟩
  obtain ⟨m, hm, hm2⟩ := hh
  unfold partV
  by_cases hn : nanB r = true
  · rw [if_pos hn]; exact ⟨_, rfl, .nan hn rfl⟩
  · rw [if_neg hn]
    have hn' := Bool.eq_false_iff.2 hn
    by_cases hl : leB r = true
    · rw [if_pos hl]; exact ⟨_, rfl, .low hn' hl rfl⟩
    · rw [if_neg hl]
      have hl' := Bool.eq_false_iff.2 hl
      rcases within r hn with ⟨g1, g2⟩ | ⟨g1, g2, g3⟩ | ⟨g1, g2, g3⟩
      · rw [if_pos g1]; exact ⟨_, rfl, .high hn' hl' g2 rfl⟩
      · rw [if_pos g1]
        refine ⟨_, rfl, .mid m hn' hl' g2 ?_ ?_⟩
        · rw [hm]; exact times_one r m g3 hm2
        · rw [hm, if_neg (by omega)]
      · rw [if_neg (by rw [g1]; decide)]
        obtain ⟨k, hk⟩ := times_share r m (above r hn hl) g3 hm2
        have hk' : timesV (held n 0 10000) r = some (k : Int) := by rw [hm]; exact hk
        rw [hk']
        refine ⟨_, rfl, .mid k hn' hl' g2 hk' ?_⟩
        rw [hm]
        unfold held
        repeat' split <;> omega
set_option maxHeartbeats 8000000 in
theorem ref_calls (n : Int) (r : Nat) (v : Int) (w : World) (h : Share n r v) : Calls Try.prog 17 #[.int .i64 n, .float .f64 r] w fun e w' => e = .returned (.int .i64 v) ∧ w' = w := by
  obtain ⟨x, hx⟩ : ∃ x, x = if n < 0 then 0 else n := ⟨_, rfl⟩
  have X1 : ∀ (ts : Array TypeId) (t : TypeId) (w : World), (Builtin.max_ ts t #[.int .i64 n, .int .i64 0]).run Try.prog w = .ok (.int .i64 x) w := fun ts t w => by rw [run_max_int2, hx]
  obtain ⟨m, hm⟩ : ∃ m, m = held n 0 10000 := ⟨_, rfl⟩
  have hm2 : 0 ≤ m ∧ m ≤ 10000 := by subst hm; unfold held; repeat' split <;> omega
  have X2 : ∀ (ts : Array TypeId) (t : TypeId) (w : World), (Builtin.min_ ts t #[.int .i64 x, .int .i64 10000]).run Try.prog w = .ok (.int .i64 m) w := fun ts t w => by rw [run_min_int2, hm, hx]; rfl
  have hm0 := hm2.1
  clear hx
  cases h with
  | nan h e =>
    subst e
    rw [← hm]
    clear hm
    unfold nanB at h
    go_enter Try.func17, Try.ntmps17
    go_wp2
    go_ret
    exact ⟨rfl, rfl⟩
  | low h l e =>
    subst e
    clear hm
    unfold nanB at h
    unfold leB at l
    go_enter Try.func17, Try.ntmps17
    go_wp2
    go_ret
    exact ⟨rfl, rfl⟩
  | high h l g e =>
    subst e
    rw [← hm]
    clear hm
    unfold nanB at h
    unfold leB at l
    unfold gtB at g
    go_enter Try.func17, Try.ntmps17
    go_wp2
    go_ret
    exact ⟨rfl, rfl⟩
  | mid k h l g t e =>
    subst e
    rw [← hm] at t ⊢
    clear hm
    unfold nanB at h
    unfold leB at l
    unfold gtB at g
    obtain ⟨p, hp, hq⟩ := Option.bind_eq_some_iff.mp t
    clear t
    have L1 : ∀ w : World, (binOp .mul 22 (.float .f64 r) (.float .f64 (floatOfInt .f64 m))).run Try.prog w = .ok (.float .f64 p) w := fun w => run_float_arith w .mul 22 .f64 r (floatOfInt .f64 m) p hp
    have L2 : ∀ w : World, (convert 22 3 (.float .f64 p)).run Try.prog w = .ok (.int .i64 (k : Int)) w := fun w => run_convert_float_int w 22 3 .f64 .i64 p k (by kernel_rfl) (by kernel_rfl) hq
    clear hp hq
    have L3 : ∀ w : World, (convert 3 22 (.int .i64 m)).run Try.prog w = .ok (.float .f64 (floatOfInt .f64 m)) w := fun w => run_convert_int_float w 3 22 .i64 .f64 m (by kernel_rfl) (by kernel_rfl)
    go_enter Try.func17, Try.ntmps17
    go_wp2
    all_goals go_ret
    all_goals (refine ⟨?_, rfl⟩; simp [*])
theorem and_rangeU (m : Nat) (hm : m < 63) (a : Int) : 0 ≤ Go.bits .and .u64 a ((2 ^ m - 1 : Nat) : Int) ∧ Go.bits .and .u64 a ((2 ^ m - 1 : Nat) : Int) ≤ ((2 ^ m - 1 : Nat) : Int) := by
  have hp : 2 ^ m ≤ 2 ^ 62 := Nat.pow_le_pow_right (by omega) (by omega)
  have h1 : 1 ≤ 2 ^ m := Nat.one_le_two_pow
  have hb : (BitVec.ofInt 64 ((2 ^ m - 1 : Nat) : Int)).toNat = 2 ^ m - 1 := by
    rw [BitVec.ofInt_natCast, BitVec.toNat_ofNat]; exact Nat.mod_eq_of_lt (by omega)
  have hx : (BitVec.ofInt 64 a).toNat &&& (2 ^ m - 1) ≤ 2 ^ m - 1 := Nat.and_le_right
  have e : Go.bits .and .u64 a ((2 ^ m - 1 : Nat) : Int) = (((BitVec.ofInt 64 a).toNat &&& (2 ^ m - 1) : Nat) : Int) := by
    show IntKind.u64.wrap ((BitVec.ofInt 64 a &&& BitVec.ofInt 64 ((2 ^ m - 1 : Nat) : Int)).toNat : Int) = _
    rw [BitVec.toNat_and, hb]
    generalize (BitVec.ofInt 64 a).toNat &&& (2 ^ m - 1) = x at *
    simp [IntKind.wrap, IntKind.signed, IntKind.bits]
    omega
  rw [e]
  omega
theorem small_float (X : Int) (h0 : 0 ≤ X) (h1 : X ≤ 10000) : ∃ (m : Nat) (j : Int), Ieee.double.read (floatOfInt .f64 X) = .number false m j ∧ (X ≠ 0 → m ≠ 0) := by
  obtain ⟨x, rfl⟩ := Int.eq_ofNat_of_zero_le h0
  by_cases hx : x = 0
  · subst hx; exact ⟨0, -1074, read_int0, fun h => absurd rfl h⟩
  · refine ⟨_, _, read_int x hx (by omega), fun _ h => ?_⟩
    have := Nat.two_pow_pos (52 - x.log2)
    rcases Nat.mul_eq_zero.1 h with h | h <;> omega
theorem div_some (X Y : Int) (h0 : 0 ≤ X) (h1 : X ≤ 10000) (h2 : 1 ≤ Y) (h3 : Y ≤ 10000) : ∃ z, FloatKind.f64.format.div (floatOfInt .f64 X) (floatOfInt .f64 Y) = some z := by
  obtain ⟨m, i, hm, _⟩ := small_float X h0 h1
  obtain ⟨k, j, hk, hk0⟩ := small_float Y (by omega) h3
  show ∃ z, ((Ieee.double.read (floatOfInt .f64 X)).quotient (Ieee.double.fractionBits + 2) (Ieee.double.read (floatOfInt .f64 Y))).map Ieee.double.write = some z
  rw [hm, hk]
  simp only [Ieee.Datum.quotient]
  rw [if_neg (hk0 (by omega))]
  exact ⟨_, rfl⟩
theorem f1024 : floatOfInt .f64 1024 = 4652218415073722368 := by kernel_rfl
theorem num1 (n : Int) (w : World) (hk : Go.bits .and .u64 n 3 = 1) : Calls Try.prog 15 #[.int .u64 n] w fun e w' => (∃ b : Nat, e = .returned (.float .f64 b)) ∧ Below w.heap.size w w' := by
  have qc := hide copy_calls; have qn := hide nan_calls; have qi := hide inf_calls; have qm := hide ninf_calls
  have hr : 0 ≤ Go.bits .and .u64 (n / 4) 1023 ∧ Go.bits .and .u64 (n / 4) 1023 ≤ 1023 := and_rangeU 10 (by omega) (n / 4)
  obtain ⟨z, hz⟩ := div_some (Go.bits .and .u64 (n / 4) 1023) 1024 hr.1 (by omega) (by omega) (by omega)
  rw [f1024] at hz
  have D : ∀ w : World, (binOp .quo 22 (.float .f64 (floatOfInt .f64 (Go.bits .and .u64 (n / 4) 1023))) (.float .f64 4652218415073722368)).run Try.prog w = .ok (.float .f64 z) w := fun w => run_float_arith w .quo 22 .f64 _ _ _ hz
  clear hz hr
  go_enter Try.func15, Try.ntmps15
  go_wp2_with (first
   | (go_at_call 7; with_reducible refine (qc.out _).mono ?_; rintro e v ⟨rfl, hv⟩; subst v)
   | (go_at_call 9; with_reducible refine (qn.out _).mono ?_; rintro e v ⟨rfl, hv⟩; subst v)
   | (go_at_call 8; with_reducible refine (qi.out _).mono ?_; rintro e v ⟨rfl, hv⟩; subst v)
   | (go_at_call 8; with_reducible refine (qm.out _).mono ?_; rintro e v ⟨rfl, hv⟩; subst v))
  go_ret
  exact ⟨⟨_, rfl⟩, be_alloc (be_refl _) (Nat.le_refl _)⟩
theorem num2 (n : Int) (w : World) (hk : Go.bits .and .u64 n 3 = 2) : Calls Try.prog 15 #[.int .u64 n] w fun e w' => (∃ b : Nat, e = .returned (.float .f64 b)) ∧ Below w.heap.size w w' := by
  have qc := hide copy_calls; have qn := hide nan_calls; have qi := hide inf_calls; have qm := hide ninf_calls
  have hr : 0 ≤ Go.bits .and .u64 (n / 4) 255 ∧ Go.bits .and .u64 (n / 4) 255 ≤ 255 := and_rangeU 8 (by omega) (n / 4)
  have hs : 0 ≤ Go.bits .and .u64 (n / 1024) 63 ∧ Go.bits .and .u64 (n / 1024) 63 ≤ 63 := and_rangeU 6 (by omega) (n / 1024)
  obtain ⟨z, hz⟩ := div_some (Go.bits .and .u64 (n / 4) 255) (Go.bits .and .u64 (n / 1024) 63 + 1) hr.1 (by omega) (by omega) (by omega)
  have D : ∀ w : World, (binOp .quo 22 (.float .f64 (floatOfInt .f64 (Go.bits .and .u64 (n / 4) 255))) (.float .f64 (floatOfInt .f64 (Go.bits .and .u64 (n / 1024) 63 + 1)))).run Try.prog w = .ok (.float .f64 z) w := fun w => run_float_arith w .quo 22 .f64 _ _ _ hz
  go_enter Try.func15, Try.ntmps15
  go_wp2_with (first
   | (go_at_call 7; with_reducible refine (qc.out _).mono ?_; rintro e v ⟨rfl, hv⟩; subst v)
   | (go_at_call 9; with_reducible refine (qn.out _).mono ?_; rintro e v ⟨rfl, hv⟩; subst v)
   | (go_at_call 8; with_reducible refine (qi.out _).mono ?_; rintro e v ⟨rfl, hv⟩; subst v)
   | (go_at_call 8; with_reducible refine (qm.out _).mono ?_; rintro e v ⟨rfl, hv⟩; subst v))
  go_ret
  exact ⟨⟨_, rfl⟩, be_alloc (be_refl _) (Nat.le_refl _)⟩
theorem num3 (n : Int) (w : World) (hk : Go.bits .and .u64 n 3 = 3) : Calls Try.prog 15 #[.int .u64 n] w fun e w' => (∃ b : Nat, e = .returned (.float .f64 b)) ∧ Below w.heap.size w w' := by
  have qc := hide copy_calls; have qn := hide nan_calls; have qi := hide inf_calls; have qm := hide ninf_calls
  go_enter Try.func15, Try.ntmps15
  go_wp2_with (first
   | (go_at_call 7; with_reducible refine (qc.out _).mono ?_; rintro e v ⟨rfl, hv⟩; subst v)
   | (go_at_call 9; with_reducible refine (qn.out _).mono ?_; rintro e v ⟨rfl, hv⟩; subst v)
   | (go_at_call 8; with_reducible refine (qi.out _).mono ?_; rintro e v ⟨rfl, hv⟩; subst v)
   | (go_at_call 8; with_reducible refine (qm.out _).mono ?_; rintro e v ⟨rfl, hv⟩; subst v))
  go_ret
  exact ⟨⟨_, rfl⟩, be_alloc (be_refl _) (Nat.le_refl _)⟩
set_option maxHeartbeats 8000000 in
theorem num0 (n x : Int) (w : World) (hk : Go.bits .and .u64 n 3 = 0) (hx : Go.bits .and .u64 (n / 4) 15 = x) (h0 : x = 0 ∨ x = 1 ∨ x = 2 ∨ x = 3 ∨ x = 4 ∨ x = 5 ∨ x = 6 ∨ x = 7 ∨ x = 8 ∨ x = 9 ∨ x = 10 ∨ x = 11 ∨ x = 12 ∨ x = 13 ∨ x = 14 ∨ x = 15) : Calls Try.prog 15 #[.int .u64 n] w fun e w' => (∃ b : Nat, e = .returned (.float .f64 b)) ∧ Below w.heap.size w w' := by
  have qc := hide copy_calls; have qn := hide nan_calls; have qi := hide inf_calls; have qm := hide ninf_calls
  rcases h0 with rfl | rfl | rfl | rfl | rfl | rfl | rfl | rfl | rfl | rfl | rfl | rfl | rfl | rfl | rfl | rfl
  all_goals (
    go_enter Try.func15, Try.ntmps15
    go_wp2_with (first
     | (go_at_call 7; with_reducible refine (qc.out _).mono ?_; rintro e v ⟨rfl, hv⟩; subst v)
     | (go_at_call 9; with_reducible refine (qn.out _).mono ?_; rintro e v ⟨rfl, hv⟩; subst v)
     | (go_at_call 8; with_reducible refine (qi.out _).mono ?_; rintro e v ⟨rfl, hv⟩; subst v)
     | (go_at_call 8; with_reducible refine (qm.out _).mono ?_; rintro e v ⟨rfl, hv⟩; subst v))
    go_ret
    exact ⟨⟨_, rfl⟩, be_alloc (be_refl _) (Nat.le_refl _)⟩)
theorem num (n : Int) (w : World) : Calls Try.prog 15 #[.int .u64 n] w fun e w' => (∃ b : Nat, e = .returned (.float .f64 b)) ∧ Below w.heap.size w w' := by
  have h : 0 ≤ Go.bits .and .u64 n 3 ∧ Go.bits .and .u64 n 3 ≤ 3 := and_rangeU 2 (by omega) n
  have h2 : 0 ≤ Go.bits .and .u64 (n / 4) 15 ∧ Go.bits .and .u64 (n / 4) 15 ≤ 15 := and_rangeU 4 (by omega) (n / 4)
  rcases (show Go.bits .and .u64 n 3 = 0 ∨ Go.bits .and .u64 n 3 = 1 ∨ Go.bits .and .u64 n 3 = 2 ∨ Go.bits .and .u64 n 3 = 3 by omega) with h | h | h | h
  · exact num0 n _ w h rfl (by omega)
  · exact num1 n w h
  · exact num2 n w h
  · exact num3 n w h
theorem same_comm (x y : Nat) : sameB y x = sameB x y := by
  unfold sameB
  have e : ((y : Int) == (x : Int)) = ((x : Int) == (y : Int)) := Bool.eq_iff_iff.2 ⟨fun h => by simp at h ⊢; exact h.symm, fun h => by simp at h ⊢; exact h.symm⟩
  rw [e, Bool.and_comm]
theorem same_tells (a b : Nat) (h : sameB a b = true) : (a : Int) = (b : Int) ∨ (nanB a = true ∧ nanB b = true) := by
  unfold sameB at h
  simp at h
  rcases h with h | h
  · exact .inr h
  · exact .inl (by omega)
theorem same_nots (a b : Nat) (h : sameB a b = false) : ¬ (a : Int) = (b : Int) ∧ ¬ (nanB a = true ∧ nanB b = true) := by
  unfold sameB at h
  simp at h
  exact ⟨by omega, fun ⟨h1, h2⟩ => by have := h.1 h1; simp_all⟩
set_option maxHeartbeats 8000000 in
set_option maxRecDepth 100000 in
theorem walkR (n r s lo hi : Int) (w : World) (_ : (Lit.int .i64 n).wf = true) (_ : (Lit.int .u64 r).wf = true) (_ : (Lit.int .u64 s).wf = true) (_ : (Lit.int .i64 lo).wf = true) (_ : (Lit.int .i64 hi).wf = true) :
    Calls Try.prog 5 #[.int .i64 n, .int .u64 r, .int .u64 s, .int .i64 lo, .int .i64 hi] w fun e w' => e = .returned (.bool true) ∧ Below w.heap.size w w' := by
  have n1 := hide (num r)
  have n2 := hide (num s)
  go_enter Try.func5, Try.ntmps5
  go_upto_region 2 with (first
   | (go_at_call 15; with_reducible refine (n1.out _).mono ?_; rintro e v1 ⟨⟨a, rfl⟩, hb1⟩; have y1 := hb1.size)
   | (go_at_call 15; with_reducible refine (n2.out _).mono ?_; rintro e v2 ⟨⟨b, rfl⟩, hb2⟩; have y2 := hb2.size))
  obtain ⟨c, hc, hc2⟩ := share n a
  obtain ⟨d, hd, hd2⟩ := share (Go.bits .and .i64 n 255) b
  have p1 := hide (fun w => part_calls n a c w hc)
  have r1 := hide (fun w => ref_calls n a c w hc2)
  have p2 := hide (fun w => part_calls (Go.bits .and .i64 n 255) b d w hd)
  have r2 := hide (fun w => ref_calls (Go.bits .and .i64 n 255) b d w hd2)
  have k1 := hide (held_calls n lo hi)
  have k2 := hide (heldR_calls n lo hi)
  generalize held n lo hi = g at k1 k2
  have s1 := hide (same_calls a b)
  have s2 := hide (same_calls b a)
  rw [same_comm] at s2
  clear hc hc2 hd hd2
  cases hsame : sameB a b with
  | true =>
    have ht := same_tells a b hsame
    rw [hsame] at s1 s2
    clear hsame
    by_cases hab : (a : Int) = (b : Int)
    · clear ht
      go_wp2_with (first
   | (go_at_call 10; with_reducible refine (p1.out _).mono ?_; rintro e v ⟨rfl, hv⟩; subst v)
   | (go_at_call 10; with_reducible refine (p2.out _).mono ?_; rintro e v ⟨rfl, hv⟩; subst v)
   | (go_at_call 17; with_reducible refine (r1.out _).mono ?_; rintro e v ⟨rfl, hv⟩; subst v)
   | (go_at_call 17; with_reducible refine (r2.out _).mono ?_; rintro e v ⟨rfl, hv⟩; subst v)
   | (go_at_call 18; with_reducible refine (k1.out _).mono ?_; rintro e v ⟨rfl, hv⟩; subst v)
   | (go_at_call 19; with_reducible refine (k2.out _).mono ?_; rintro e v ⟨rfl, hv⟩; subst v)
   | (go_at_call 13; with_reducible refine (s1.out _).mono ?_; rintro e v ⟨rfl, hv⟩; subst v)
   | (go_at_call 13; with_reducible refine (s2.out _).mono ?_; rintro e v ⟨rfl, hv⟩; subst v)
   | (go_at_call 11; refine (awake_calls _).mono ?_; rintro e v ⟨rfl, hv⟩; subst v))
      all_goals (go_ret; exact ⟨rfl, by (repeat (first | (with_reducible assumption) | with_reducible exact be_refl _ | (with_reducible refine be_set ?_ (by dsimp only; omega)) | (with_reducible apply be_drew) | (with_reducible apply be_drewN) | (with_reducible refine be_alloc ?_ (by first | omega | (simp; omega) | simp)) | (with_reducible refine be_call (by with_reducible assumption) (by first | omega | (simp; omega) | simp) ?_)))⟩)
    · obtain ⟨na, nb⟩ := ht.resolve_left hab
      clear ht
      unfold nanB at na nb
      go_wp2_with (first
   | (go_at_call 10; with_reducible refine (p1.out _).mono ?_; rintro e v ⟨rfl, hv⟩; subst v)
   | (go_at_call 10; with_reducible refine (p2.out _).mono ?_; rintro e v ⟨rfl, hv⟩; subst v)
   | (go_at_call 17; with_reducible refine (r1.out _).mono ?_; rintro e v ⟨rfl, hv⟩; subst v)
   | (go_at_call 17; with_reducible refine (r2.out _).mono ?_; rintro e v ⟨rfl, hv⟩; subst v)
   | (go_at_call 18; with_reducible refine (k1.out _).mono ?_; rintro e v ⟨rfl, hv⟩; subst v)
   | (go_at_call 19; with_reducible refine (k2.out _).mono ?_; rintro e v ⟨rfl, hv⟩; subst v)
   | (go_at_call 13; with_reducible refine (s1.out _).mono ?_; rintro e v ⟨rfl, hv⟩; subst v)
   | (go_at_call 13; with_reducible refine (s2.out _).mono ?_; rintro e v ⟨rfl, hv⟩; subst v)
   | (go_at_call 11; refine (awake_calls _).mono ?_; rintro e v ⟨rfl, hv⟩; subst v))
      all_goals (go_ret; exact ⟨rfl, by (repeat (first | (with_reducible assumption) | with_reducible exact be_refl _ | (with_reducible refine be_set ?_ (by dsimp only; omega)) | (with_reducible apply be_drew) | (with_reducible apply be_drewN) | (with_reducible refine be_alloc ?_ (by first | omega | (simp; omega) | simp)) | (with_reducible refine be_call (by with_reducible assumption) (by first | omega | (simp; omega) | simp) ?_)))⟩)
  | false =>
    obtain ⟨hab, hnn⟩ := same_nots a b hsame
    have hab2 : ((a : Int) == (b : Int)) = false := by simpa using hab
    rw [hsame] at s1 s2
    clear hsame
    cases na : nanB a with
    | true =>
      cases nb : nanB b with
      | true => exact absurd ⟨na, nb⟩ hnn
      | false =>
        clear hnn
        unfold nanB at na nb
        go_wp2_with (first
   | (go_at_call 10; with_reducible refine (p1.out _).mono ?_; rintro e v ⟨rfl, hv⟩; subst v)
   | (go_at_call 10; with_reducible refine (p2.out _).mono ?_; rintro e v ⟨rfl, hv⟩; subst v)
   | (go_at_call 17; with_reducible refine (r1.out _).mono ?_; rintro e v ⟨rfl, hv⟩; subst v)
   | (go_at_call 17; with_reducible refine (r2.out _).mono ?_; rintro e v ⟨rfl, hv⟩; subst v)
   | (go_at_call 18; with_reducible refine (k1.out _).mono ?_; rintro e v ⟨rfl, hv⟩; subst v)
   | (go_at_call 19; with_reducible refine (k2.out _).mono ?_; rintro e v ⟨rfl, hv⟩; subst v)
   | (go_at_call 13; with_reducible refine (s1.out _).mono ?_; rintro e v ⟨rfl, hv⟩; subst v)
   | (go_at_call 13; with_reducible refine (s2.out _).mono ?_; rintro e v ⟨rfl, hv⟩; subst v)
   | (go_at_call 11; refine (awake_calls _).mono ?_; rintro e v ⟨rfl, hv⟩; subst v))
        all_goals (go_ret; exact ⟨rfl, by (repeat (first | (with_reducible assumption) | with_reducible exact be_refl _ | (with_reducible refine be_set ?_ (by dsimp only; omega)) | (with_reducible apply be_drew) | (with_reducible apply be_drewN) | (with_reducible refine be_alloc ?_ (by first | omega | (simp; omega) | simp)) | (with_reducible refine be_call (by with_reducible assumption) (by first | omega | (simp; omega) | simp) ?_)))⟩)
    | false =>
      clear hnn
      unfold nanB at na
      go_wp2_with (first
   | (go_at_call 10; with_reducible refine (p1.out _).mono ?_; rintro e v ⟨rfl, hv⟩; subst v)
   | (go_at_call 10; with_reducible refine (p2.out _).mono ?_; rintro e v ⟨rfl, hv⟩; subst v)
   | (go_at_call 17; with_reducible refine (r1.out _).mono ?_; rintro e v ⟨rfl, hv⟩; subst v)
   | (go_at_call 17; with_reducible refine (r2.out _).mono ?_; rintro e v ⟨rfl, hv⟩; subst v)
   | (go_at_call 18; with_reducible refine (k1.out _).mono ?_; rintro e v ⟨rfl, hv⟩; subst v)
   | (go_at_call 19; with_reducible refine (k2.out _).mono ?_; rintro e v ⟨rfl, hv⟩; subst v)
   | (go_at_call 13; with_reducible refine (s1.out _).mono ?_; rintro e v ⟨rfl, hv⟩; subst v)
   | (go_at_call 13; with_reducible refine (s2.out _).mono ?_; rintro e v ⟨rfl, hv⟩; subst v)
   | (go_at_call 11; refine (awake_calls _).mono ?_; rintro e v ⟨rfl, hv⟩; subst v))
      all_goals (go_ret; exact ⟨rfl, by (repeat (first | (with_reducible assumption) | with_reducible exact be_refl _ | (with_reducible refine be_set ?_ (by dsimp only; omega)) | (with_reducible apply be_drew) | (with_reducible apply be_drewN) | (with_reducible refine be_alloc ?_ (by first | omega | (simp; omega) | simp)) | (with_reducible refine be_call (by with_reducible assumption) (by first | omega | (simp; omega) | simp) ?_)))⟩)
end Go.Proofs.Ytdkpohnjcbmnoaa.RatiTellsW

