/- Floats: any share within 0 and 1 of a number up to 10000 can be cut. Plain Lean; no program. -/
import Derived.Test.YtdkpohnjcbmnoaaRatiMath
namespace Go.Proofs.Ytdkpohnjcbmnoaa.RatiTellsMath
open Ieee Go.Proofs.Ytdkpohnjcbmnoaa.RatiMath
set_option linter.unusedVariables false
set_option linter.unusedSimpArgs false
theorem pow_log (n k : Nat) (h : n < 2 ^ k) (h0 : n ≠ 0) : n.log2 < k := (Nat.log2_lt h0).2 h
theorem div_pow (n d k : Nat) (h : n < 2 ^ (k + d)) : n / 2 ^ d < 2 ^ k := by
  rw [Nat.div_lt_iff_lt_mul (Nat.two_pow_pos d), ← Nat.pow_add]; exact h
theorem cut_le (n d : Nat) (h : n < 2 ^ (53 + min d (n.log2 + 2))) : Toward.even.cut false n d ≤ 2 ^ 53 := by
  have := div_pow n (min d (n.log2 + 2)) 53 h
  unfold Toward.cut
  simp only [Nat.one_shiftLeft]
  refine Nat.le_trans (Nat.add_le_add_left (Bool.toNat_le _) _) ?_
  omega
/-- What is kept of a number is 53 digits, or the next power. -/
theorem kept_le (mag : Nat) (place last : Int) (h0 : mag ≠ 0) (hl : place + mag.log2 - 52 ≤ last) : Toward.even.cut false (mag <<< (place - last).toNat) (last - place).toNat ≤ 2 ^ 53 := by
  have b2 : mag < 2 ^ (mag.log2 + 1) := Nat.lt_log2_self
  by_cases hp : last ≤ place
  · rw [show (last - place).toNat = 0 by omega, cut_none, Nat.shiftLeft_eq]
    have e : mag * 2 ^ (place - last).toNat < 2 ^ (mag.log2 + 1) * 2 ^ (place - last).toNat := (Nat.mul_lt_mul_right (Nat.two_pow_pos _)).2 b2
    rw [← Nat.pow_add] at e
    have : 2 ^ (mag.log2 + 1 + (place - last).toNat) ≤ 2 ^ 53 := Nat.pow_le_pow_right (by omega) (by omega)
    omega
  · rw [show (place - last).toNat = 0 by omega, Nat.shiftLeft_zero]
    apply cut_le
    refine Nat.lt_of_lt_of_le b2 (Nat.pow_le_pow_right (by omega) ?_)
    omega
/-- A number below 2^16 that is written is read as one below 2^17, which can be cut. -/
theorem near_cut (mag : Nat) (place : Int) (h : mag = 0 ∨ place + mag.log2 ≤ 14) : ∃ k : Nat, (double.read (double.nearest false mag place)).toInt .zero = some (k : Int) ∧ k ≤ 9007199254740992 := by
  have hr : ∃ r : Nat, double.nearest false mag place = r ∧ r ≤ 1038 * 4503599627370496 := by
    unfold Format.nearest
    split
    · exact ⟨0, rfl, by omega⟩
    · rename_i h0
      have h2 : place + mag.log2 ≤ 14 := h.resolve_left h0
      simp only [least_d, bin_d, inf_d, fb_d]
      have hk := kept_le mag place (max (place + mag.log2 - ((52 : Nat) : Int)) (-1074)) h0 (by omega)
      refine ⟨_, rfl, ?_⟩
      generalize Toward.even.cut false (mag <<< (place - max (place + mag.log2 - ((52 : Nat) : Int)) (-1074)).toNat) (max (place + mag.log2 - ((52 : Nat) : Int)) (-1074) - place).toNat = K at *
      have hx : (max (place + mag.log2 - ((52 : Nat) : Int)) (-1074) - -1074).toNat ≤ 1036 := by omega
      generalize (max (place + mag.log2 - ((52 : Nat) : Int)) (-1074) - -1074).toNat = x at *
      unfold Format.word
      simp only [Bool.false_eq_true, if_false]
      omega
  obtain ⟨r, e, hr⟩ := hr
  rw [e, read_rung r (by omega)]
  split
  · rename_i hlt
    have := toInt_neg r 1074
    refine ⟨_, this, ?_⟩
    have := Nat.div_le_self r (2 ^ 1074)
    omega
  · rename_i hge
    have hd : r / 4503599627370496 ≤ 1038 := by omega
    have e2 : (-1074 + ((r / 4503599627370496 - 1 : Nat) : Int)) = -((1074 - (r / 4503599627370496 - 1) : Nat) : Int) := by omega
    rw [e2]
    refine ⟨_, toInt_neg _ _, ?_⟩
    have := Nat.div_le_self (4503599627370496 + r % 4503599627370496) (2 ^ (1074 - (r / 4503599627370496 - 1)))
    omega
theorem cmp_gt (x y : Int) : (some (compare x y) = some Ordering.gt) ↔ y < x := by
  show (some (compareOfLessAndEq x y) = some Ordering.gt) ↔ y < x
  unfold compareOfLessAndEq
  by_cases h : x < y
  · simp [h]; omega
  · by_cases h2 : x = y
    · simp [h2]
    · simp [h, h2]; omega
/-- What a share that is no NaN, above nought, and not above one stands for. -/
theorem share_read (r : Nat) (h0 : FloatKind.f64.format.order r 0 = some .gt) (h1 : FloatKind.f64.format.order r 4607182418800017408 ≠ some .gt) :
    ∃ (m : Nat) (i : Int), double.read r = .number false m i ∧ m ≠ 0 ∧ i + m.log2 ≤ 0 := by
  have e0 : double.read 0 = .number false 0 (-1074) := by kernel_rfl
  have e1 : double.read 4607182418800017408 = .number false 4503599627370496 (-52) := by kernel_rfl
  change (double.read r).order (double.read 0) = some .gt at h0
  change (double.read r).order (double.read 4607182418800017408) ≠ some .gt at h1
  rw [e0] at h0
  rw [e1] at h1
  cases hd : double.read r with
  | nan s f => rw [hd] at h0; cases h0
  | infinity s =>
    rw [hd] at h0 h1
    cases s
    · exact absurd rfl h1
    · cases h0
  | number s m i =>
    rw [hd] at h0 h1
    change some (compare (signed s m (i - min i (-1074)).toNat) (signed false 0 (-1074 - min i (-1074)).toNat)) = some .gt at h0
    change some (compare (signed s m (i - min i (-52)).toNat) (signed false 4503599627370496 (-52 - min i (-52)).toNat)) ≠ some .gt at h1
    have g0 := (cmp_gt _ _).1 h0
    have g1 : ¬ _ := fun h => h1 ((cmp_gt _ _).2 h)
    have hz : (signed false 0 (-1074 - min i (-1074)).toNat) = 0 := by simp [signed]
    rw [hz] at g0
    cases s
    · refine ⟨m, i, rfl, ?_, ?_⟩
      · rintro rfl
        simp [signed] at g0
      · have hm : m ≠ 0 := by
          rintro rfl
          simp [signed] at g0
        have b1 := Nat.log2_self_le hm
        simp only [signed, Bool.false_eq_true, if_false, Nat.shiftLeft_eq] at g1
        have g2 : m * 2 ^ (i - min i (-52)).toNat ≤ 4503599627370496 * 2 ^ (-52 - min i (-52)).toNat := by omega
        have g3 : 2 ^ m.log2 * 2 ^ (i - min i (-52)).toNat ≤ 2 ^ 52 * 2 ^ (-52 - min i (-52)).toNat := Nat.le_trans (Nat.mul_le_mul_right _ b1) g2
        rw [← Nat.pow_add, ← Nat.pow_add] at g3
        have g4 := (Nat.pow_le_pow_iff_right (a := 2) (by omega)).1 g3
        omega
    · exfalso
      unfold signed at g0
      rw [if_pos rfl] at g0
      generalize m <<< _ = y at g0
      omega
/-- A share within 0 and 1 of a number up to 10000, cut. -/
theorem times_share (r m : Nat) (h0 : FloatKind.f64.format.order r 0 = some .gt) (h1 : FloatKind.f64.format.order r 4607182418800017408 ≠ some .gt) (h2 : m ≤ 10000) :
    ∃ k : Nat, (FloatKind.f64.format.mul r (floatOfInt .f64 (m : Int))).bind (fun p => floatToIntVal .f64 p .i64) = some (k : Int) := by
  obtain ⟨c, i, hr, hc, hl⟩ := share_read r h0 h1
  show ∃ k : Nat, ((((double.read r).product (double.read (floatOfInt .f64 (m : Int)))).map double.write).bind fun p => floatToIntVal .f64 p .i64) = some (k : Int)
  have hj : ∃ (mm : Nat) (j : Int), double.read (floatOfInt .f64 (m : Int)) = .number false mm j ∧ (mm = 0 ∨ j + mm.log2 ≤ 13) := by
    by_cases hm : m = 0
    · subst hm; exact ⟨0, -1074, read_int0, .inl rfl⟩
    · refine ⟨_, _, read_int m hm h2, .inr ?_⟩
      have hlm : m.log2 ≤ 13 := by
        have := Nat.log2_self_le hm
        have : ¬ 14 ≤ m.log2 := fun h => by have := Nat.pow_le_pow_right (n := 2) (by omega) h; omega
        omega
      rw [log2_pow _ _ hm]
      omega
  obtain ⟨mm, j, hm, hmm⟩ := hj
  rw [hr, hm]
  simp only [Datum.product, Option.map_some, Option.bind_some]
  have hz : c * mm = 0 ∨ i + j + ((c * mm).log2 : Int) ≤ 14 := by
    rcases hmm with h | h
    · left; rw [h, Nat.mul_zero]
    · by_cases hmz : mm = 0
      · left; rw [hmz, Nat.mul_zero]
      · right
        have b2 : c < 2 ^ (c.log2 + 1) := Nat.lt_log2_self
        have b3 : mm < 2 ^ (mm.log2 + 1) := Nat.lt_log2_self
        have b4 : c * mm < 2 ^ (c.log2 + 1) * 2 ^ (mm.log2 + 1) := Nat.mul_lt_mul'' b2 b3
        rw [← Nat.pow_add] at b4
        have b5 := pow_log _ _ b4 (by intro h; rcases Nat.mul_eq_zero.1 h with h | h <;> omega)
        omega
  obtain ⟨k, hk, hk2⟩ := near_cut (c * mm) (i + j) hz
  refine ⟨k, ?_⟩
  unfold floatToIntVal
  show (match (double.read (double.nearest (false ^^ false) (c * mm) (i + j))).toInt .zero with | some n => if IntKind.i64.min ≤ n ∧ n ≤ IntKind.i64.max then some n else none | none => none) = _
  rw [show (false ^^ false) = false from rfl, hk]
  have : IntKind.i64.min ≤ (k : Int) ∧ (k : Int) ≤ IntKind.i64.max := by
    simp [IntKind.min, IntKind.max, IntKind.signed, IntKind.bits]; omega
  simp only [this, and_self, if_true]
theorem read_form (r m : Nat) (s : Bool) (i : Int) (h : double.read r = .number s m i) : m < 9007199254740992 ∧ (4503599627370496 ≤ m ∨ i = -1074) := by
  unfold Format.read at h
  simp only [least_d, bin_d, inf_d, sw_d] at h
  split at h
  · injection h with _ h2 h3
    exact ⟨by omega, .inr h3.symm⟩
  · split at h
    · injection h with _ h2 h3
      exact ⟨by omega, .inl (by omega)⟩
    · split at h <;> cases h
theorem cmp_eq (x y : Int) : (some (compare x y) = some Ordering.eq) ↔ x = y := by
  show (some (compareOfLessAndEq x y) = some Ordering.eq) ↔ x = y
  unfold compareOfLessAndEq
  by_cases h : x < y
  · simp [h]; omega
  · by_cases h2 : x = y
    · simp [h2]
    · simp [h, h2]
/-- What reads as one is one. -/
theorem one_read (r : Nat) (h1 : FloatKind.f64.format.order r 4607182418800017408 = some .eq) : double.read r = double.read 4607182418800017408 := by
  have e1 : double.read 4607182418800017408 = .number false 4503599627370496 (-52) := by kernel_rfl
  change (double.read r).order (double.read 4607182418800017408) = some .eq at h1
  rw [e1] at h1 ⊢
  cases hd : double.read r with
  | nan s f => rw [hd] at h1; cases h1
  | infinity s => rw [hd] at h1; cases s <;> cases h1
  | number s m i =>
    rw [hd] at h1
    obtain ⟨f1, f2⟩ := read_form r m s i hd
    change some (compare (signed s m (i - min i (-52)).toNat) (signed false 4503599627370496 (-52 - min i (-52)).toNat)) = some .eq at h1
    have g := (cmp_eq _ _).1 h1
    have hp : 0 < 4503599627370496 <<< (-52 - min i (-52)).toNat := by
      rw [Nat.shiftLeft_eq]; exact Nat.mul_pos (by omega) (Nat.two_pow_pos _)
    cases s
    · unfold signed at g
      rw [if_neg (by decide), if_neg (by decide)] at g
      have g2 : m <<< (i - min i (-52)).toNat = 4503599627370496 <<< (-52 - min i (-52)).toNat := Int.ofNat_inj.1 g
      rw [Nat.shiftLeft_eq, Nat.shiftLeft_eq] at g2
      by_cases hi : -52 ≤ i
      · rw [show (-52 - min i (-52)).toNat = 0 by omega, Nat.pow_zero, Nat.mul_one] at g2
        have hm : 4503599627370496 ≤ m := f2.resolve_right (by omega)
        have hk : (i - min i (-52)).toNat = 0 := by
          apply Classical.byContradiction
          intro hne
          have h2 : 2 ^ 1 ≤ 2 ^ (i - min i (-52)).toNat := Nat.pow_le_pow_right (by omega) (by omega)
          have h3 := Nat.mul_le_mul hm h2
          omega
        rw [hk, Nat.pow_zero, Nat.mul_one] at g2
        rw [g2, show i = -52 by omega]
      · exfalso
        rw [show (i - min i (-52)).toNat = 0 by omega, Nat.pow_zero, Nat.mul_one] at g2
        have h2 : 2 ^ 1 ≤ 2 ^ (-52 - min i (-52)).toNat := Nat.pow_le_pow_right (by omega) (by omega)
        omega
    · exfalso
      unfold signed at g
      rw [if_pos rfl, if_neg (by decide)] at g
      generalize m <<< _ = y at g
      omega
theorem times_one (r m : Nat) (h1 : FloatKind.f64.format.order r 4607182418800017408 = some .eq) (h2 : m ≤ 10000) :
    (FloatKind.f64.format.mul r (floatOfInt .f64 (m : Int))).bind (fun p => floatToIntVal .f64 p .i64) = some (m : Int) := by
  have h := times_F 1024 m (by omega) (by omega) h2
  rw [Nat.mul_comm, Nat.mul_div_cancel _ (by omega), F_one] at h
  have e : FloatKind.f64.format.mul r (floatOfInt .f64 (m : Int)) = FloatKind.f64.format.mul 4607182418800017408 (floatOfInt .f64 (m : Int)) := by
    show ((double.read r).product _).map _ = ((double.read 4607182418800017408).product _).map _
    rw [one_read r h1]
  rw [e]
  exact h
end Go.Proofs.Ytdkpohnjcbmnoaa.RatiTellsMath

