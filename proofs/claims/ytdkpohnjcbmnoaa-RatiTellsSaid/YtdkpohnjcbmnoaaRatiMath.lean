/- Floats: small whole numbers and their 1024ths are exact; a product of such, cut, is the whole number below; any product within bounds can be cut. Plain Lean; no program. -/
import Derived.Laws.FloatArith
import Derived.KernelRfl
namespace Go.Proofs.Ytdkpohnjcbmnoaa.RatiMath
open Ieee
set_option linter.unusedVariables false
set_option linter.unusedSimpArgs false
theorem least_d : double.leastPlace = -1074 := by decide
theorem bin_d : double.binade = 4503599627370496 := by decide
theorem inf_d : double.infRung = 9218868437227405312 := by decide
theorem sw_d : double.signWeight = 9223372036854775808 := by decide
theorem fb_d : double.fractionBits = 52 := rfl
theorem log2_pow (c t : Nat) (hc : c ≠ 0) : (c * 2 ^ t).log2 = c.log2 + t := by
  have h1 := Nat.log2_self_le hc
  have h2 : c < 2 ^ (c.log2 + 1) := Nat.lt_log2_self
  have hp : 0 < 2 ^ t := Nat.two_pow_pos t
  refine (Nat.log2_eq_iff (by intro h; rcases Nat.mul_eq_zero.1 h with h | h <;> omega)).2 ⟨?_, ?_⟩
  · rw [Nat.pow_add]; exact Nat.mul_le_mul_right _ h1
  · rw [show c.log2 + t + 1 = (c.log2 + 1) + t by omega, Nat.pow_add]; exact (Nat.mul_lt_mul_right hp).2 h2
theorem cut_none (way : Toward) (neg : Bool) (n : Nat) : way.cut neg n 0 = n := by
  cases way <;> simp [Toward.cut, Nat.mod_one]
theorem cut_even (neg : Bool) (k d n : Nat) (hn : n = k * 2 ^ d) (hd : d ≤ n.log2 + 2) : Toward.even.cut neg n d = k := by
  have hp : 0 < 2 ^ d := Nat.two_pow_pos d
  unfold Toward.cut
  rw [Nat.min_eq_left hd, Nat.one_shiftLeft]
  have e1 : n / 2 ^ d = k := by rw [hn]; exact Nat.mul_div_cancel _ hp
  have e2 : n % 2 ^ d = 0 := by rw [hn]; exact Nat.mul_mod_left _ _
  simp only [e1, e2]
  simp
theorem cut_zero (neg : Bool) (n d : Nat) : Toward.zero.cut neg n d = n / 2 ^ d := by
  unfold Toward.cut
  simp only [Nat.one_shiftLeft]
  by_cases h : d ≤ n.log2 + 2
  · rw [Nat.min_eq_left h]; simp
  · rw [Nat.min_eq_right (by omega)]
    have h2 : n < 2 ^ (n.log2 + 1) := Nat.lt_log2_self
    have h3 : 2 ^ (n.log2 + 1) ≤ 2 ^ (n.log2 + 2) := Nat.pow_le_pow_right (by omega) (by omega)
    have h4 : 2 ^ (n.log2 + 1) ≤ 2 ^ d := Nat.pow_le_pow_right (by omega) (by omega)
    rw [Nat.div_eq_of_lt (by omega : n < 2 ^ (n.log2 + 2)), Nat.div_eq_of_lt (by omega : n < 2 ^ d)]
    simp
theorem read_rung (r : Nat) (h1 : r < 9218868437227405312) : double.read r = if r < 4503599627370496 then .number false r (-1074) else .number false (4503599627370496 + r % 4503599627370496) (-1074 + (r / 4503599627370496 - 1 : Nat)) := by
  unfold Format.read
  simp only [least_d, bin_d, inf_d, sw_d]
  have e1 : r / 9223372036854775808 = 0 := Nat.div_eq_of_lt (by omega)
  have e2 : r % 9223372036854775808 = r := Nat.mod_eq_of_lt (by omega)
  rw [e1, e2]
  simp [h1]
theorem nearest_exact (c t : Nat) (p : Int) (hc : c ≠ 0) (hL : c.log2 ≤ 52) (h1 : -1074 ≤ p + c.log2 - 52) (h2 : p + c.log2 ≤ 1023) :
    double.read (double.nearest false (c * 2 ^ t) (p - t)) = .number false (c * 2 ^ (52 - c.log2)) (p + c.log2 - 52) := by
  have hm : c * 2 ^ t ≠ 0 := by have := Nat.two_pow_pos t; intro h; rcases Nat.mul_eq_zero.1 h with h | h <;> omega
  have hl := log2_pow c t hc
  have b1 := Nat.log2_self_le hc
  have b2 : c < 2 ^ (c.log2 + 1) := Nat.lt_log2_self
  generalize hLL : c.log2 = L at *
  have g1 : 4503599627370496 ≤ c * 2 ^ (52 - L) := by
    have e : (2 : Nat) ^ 52 = 2 ^ L * 2 ^ (52 - L) := by rw [← Nat.pow_add]; congr 1; omega
    have := Nat.mul_le_mul_right (2 ^ (52 - L)) b1
    rw [← e] at this
    exact this
  have g2 : c * 2 ^ (52 - L) < 9007199254740992 := by
    have e : (2 : Nat) ^ 53 = 2 ^ (L + 1) * 2 ^ (52 - L) := by rw [← Nat.pow_add]; congr 1; omega
    have := (Nat.mul_lt_mul_right (Nat.two_pow_pos (52 - L))).2 b2
    rw [← e] at this
    exact this
  unfold Format.nearest
  rw [if_neg hm]
  simp only [hl, least_d, bin_d, inf_d, fb_d]
  have hmax : max (p - t + ((L + t : Nat) : Int) - ((52 : Nat) : Int)) (-1074) = p + L - 52 := by omega
  rw [hmax]
  have hk : Toward.even.cut false ((c * 2 ^ t) <<< (p - t - (p + L - 52)).toNat) (p + L - 52 - (p - t)).toNat = c * 2 ^ (52 - L) := by
    by_cases ht : t + L ≤ 52
    · rw [show (p + L - 52 - (p - t)).toNat = 0 by omega, cut_none, show (p - t - (p + L - 52)).toNat = 52 - t - L by omega, Nat.shiftLeft_eq, Nat.mul_assoc, ← Nat.pow_add]
      congr 2; omega
    · rw [show (p - t - (p + L - 52)).toNat = 0 by omega, Nat.shiftLeft_zero]
      refine cut_even _ _ _ _ ?_ ?_
      · rw [Nat.mul_assoc, ← Nat.pow_add]; congr 2; omega
      · rw [hl]; omega
  rw [hk]
  generalize c * 2 ^ (52 - L) = K at *
  have hr : (p + L - 52 - -1074).toNat * 4503599627370496 + K < 9218868437227405312 := by
    have : (p + L - 52 - -1074).toNat ≤ 2045 := by omega
    omega
  rw [Nat.min_eq_left (by omega)]
  unfold Format.word
  simp only [Bool.false_eq_true, if_false]
  rw [read_rung _ hr, if_neg (by omega)]
  generalize hx : (p + L - 52 - -1074).toNat = x at *
  have hx2 : (x : Int) = p + L - 52 + 1074 := by omega
  congr 1
  · omega
  · omega
theorem toInt_neg (m d : Nat) : (Datum.number false m (-(d : Int))).toInt .zero = some ((m / 2 ^ d : Nat) : Int) := by
  show some (signed false (Toward.zero.cut false (m <<< (-(d : Int)).toNat) (- -(d : Int)).toNat) 0) = _
  rw [cut_zero]
  have e1 : (-(d : Int)).toNat = 0 := by omega
  have e2 : (- -(d : Int)).toNat = d := by omega
  simp only [e1, e2, Nat.shiftLeft_zero]
  unfold signed
  simp
/-- The bits of A / 1024. -/
def F (A : Nat) : Nat := double.nearest false A (-10)
theorem read_F (A : Nat) (h0 : A ≠ 0) (h1 : A ≤ 1024) : double.read (F A) = .number false (A * 2 ^ (52 - A.log2)) (-10 + A.log2 - 52) := by
  have hl : A.log2 ≤ 10 := by
    have := Nat.log2_self_le h0
    have : ¬ 11 ≤ A.log2 := fun h => by have := Nat.pow_le_pow_right (n := 2) (by omega) h; omega
    omega
  have := nearest_exact A 0 (-10) h0 (by omega) (by omega) (by omega)
  simpa [F] using this
theorem read_int (m : Nat) (h0 : m ≠ 0) (h1 : m ≤ 10000) : double.read (floatOfInt .f64 (m : Int)) = .number false (m * 2 ^ (52 - m.log2)) (m.log2 - 52) := by
  have hl : m.log2 ≤ 13 := by
    have := Nat.log2_self_le h0
    have : ¬ 14 ≤ m.log2 := fun h => by have := Nat.pow_le_pow_right (n := 2) (by omega) h; omega
    omega
  have := nearest_exact m 0 0 h0 (by omega) (by omega) (by omega)
  have e : floatOfInt .f64 (m : Int) = double.nearest false m 0 := by
    have hn : decide ((m : Int) < 0) = false := by simp
    show double.nearest (decide ((m : Int) < 0)) (m : Int).natAbs 0 = _
    rw [hn]
    rfl
  rw [e]
  simpa using this
theorem read_int0 : double.read (floatOfInt .f64 0) = .number false 0 (-1074) := by kernel_rfl
theorem log2_le (a b k : Nat) (h : a * b < 2 ^ (k + 1)) (h0 : a * b ≠ 0) : (a * b).log2 ≤ k := by
  have h1 := Nat.log2_self_le h0
  have : ¬ k + 1 ≤ (a * b).log2 := fun h2 => by have := Nat.pow_le_pow_right (n := 2) (by omega) h2; omega
  omega
/-- int(A / 1024 * m), of small A and m. -/
theorem times_F (A m : Nat) (h0 : A ≠ 0) (h1 : A ≤ 1024) (h2 : m ≤ 10000) :
    (FloatKind.f64.format.mul (F A) (floatOfInt .f64 (m : Int))).bind (fun p => floatToIntVal .f64 p .i64) = some ((A * m / 1024 : Nat) : Int) := by
  show ((((double.read (F A)).product (double.read (floatOfInt .f64 (m : Int)))).map double.write).bind fun p => floatToIntVal .f64 p .i64) = _
  rw [read_F A h0 h1]
  have hb : ∀ (x : Nat) (k : Nat), k ≤ 10240000 → (double.read x).toInt .zero = some ((k : Nat) : Int) → floatToIntVal .f64 x .i64 = some (k : Int) := by
    intro x k hk hx
    unfold floatToIntVal
    show (match (double.read x).toInt .zero with | some n => if IntKind.i64.min ≤ n ∧ n ≤ IntKind.i64.max then some n else none | none => none) = _
    rw [hx]
    have : IntKind.i64.min ≤ (k : Int) ∧ (k : Int) ≤ IntKind.i64.max := by
      simp [IntKind.min, IntKind.max, IntKind.signed, IntKind.bits]; omega
    simp only [this, and_self, if_true]
  by_cases hm : m = 0
  · subst hm
    rw [show ((0 : Nat) : Int) = 0 from rfl, read_int0]
    simp only [Datum.product, Option.map_some, Option.bind_some, Nat.mul_zero, Nat.zero_div]
    refine hb _ 0 (by omega) ?_
    simp only [Format.write, Format.nearest, if_true]
    kernel_rfl
  · rw [read_int m hm h2]
    simp only [Datum.product, Option.map_some, Option.bind_some]
    have hA : A * m ≠ 0 := by intro h; rcases Nat.mul_eq_zero.1 h with h | h <;> omega
    have hAm : A * m ≤ 10240000 := Nat.le_trans (Nat.mul_le_mul h1 h2) (by decide)
    have hL := log2_le A m 23 (by omega) hA
    have hLA : A.log2 ≤ 52 := by
      have := Nat.log2_self_le h0
      have : ¬ 53 ≤ A.log2 := fun h => by have := Nat.pow_le_pow_right (n := 2) (by omega) h; omega
      omega
    have hLm : m.log2 ≤ 52 := by
      have := Nat.log2_self_le hm
      have : ¬ 53 ≤ m.log2 := fun h => by have := Nat.pow_le_pow_right (n := 2) (by omega) h; omega
      omega
    refine hb _ _ (by have := Nat.div_le_self (A * m) 1024; omega) ?_
    show (double.read (double.nearest (false ^^ false) (A * 2 ^ (52 - A.log2) * (m * 2 ^ (52 - m.log2))) (-10 + A.log2 - 52 + (m.log2 - 52)))).toInt .zero = _
    have e1 : A * 2 ^ (52 - A.log2) * (m * 2 ^ (52 - m.log2)) = A * m * 2 ^ (52 - A.log2 + (52 - m.log2)) := by
      rw [Nat.pow_add]; simp only [Nat.mul_comm, Nat.mul_left_comm, Nat.mul_assoc]
    have e2 : (-10 + (A.log2 : Int) - 52 + (m.log2 - 52)) = -10 - ((52 - A.log2 + (52 - m.log2) : Nat) : Int) := by omega
    rw [e1, e2, show (false ^^ false) = false from rfl, nearest_exact (A * m) _ (-10) hA (by omega) (by omega) (by omega)]
    have e3 : (-10 + ((A * m).log2 : Int) - 52) = -((62 - (A * m).log2 : Nat) : Int) := by omega
    rw [e3, toInt_neg]
    congr 2
    have e4 : (2 : Nat) ^ (62 - (A * m).log2) = 1024 * 2 ^ (52 - (A * m).log2) := by
      rw [show (1024 : Nat) = 2 ^ 10 from rfl, ← Nat.pow_add]; congr 1; omega
    rw [e4, Nat.mul_comm 1024, ← Nat.div_div_eq_div_mul, Nat.mul_div_cancel _ (Nat.two_pow_pos _)]
theorem comp_mul (A B k : Nat) : compare (((A * 2 ^ k : Nat) : Int)) (((B * 2 ^ k : Nat) : Int)) = compare A B := by
  have hp : 0 < 2 ^ k := Nat.two_pow_pos k
  show compareOfLessAndEq _ _ = compareOfLessAndEq _ _
  unfold compareOfLessAndEq
  have h1 : ((A * 2 ^ k : Nat) : Int) < ((B * 2 ^ k : Nat) : Int) ↔ A < B := by rw [Int.ofNat_lt]; exact Nat.mul_lt_mul_right hp
  have h2 : ((A * 2 ^ k : Nat) : Int) = ((B * 2 ^ k : Nat) : Int) ↔ A = B := by rw [Int.ofNat_inj]; exact Nat.mul_left_inj (by omega)
  simp only [h1, h2]
theorem order_num (a b A B k : Nat) (i j : Int) (ha : a <<< (i - min i j).toNat = A * 2 ^ k) (hb : b <<< (j - min i j).toNat = B * 2 ^ k) : (Datum.number false a i).order (.number false b j) = some (compare A B) := by
  show some (compare (signed false a (i - min i j).toNat) (signed false b (j - min i j).toNat)) = _
  unfold signed
  rw [ha, hb]
  simp only [Bool.false_eq_true, if_false]
  rw [comp_mul]
theorem read_F0 : double.read (F 0) = .number false 0 (-1074) := by kernel_rfl
theorem log10 (A : Nat) (h0 : A ≠ 0) (h1 : A ≤ 1024) : A.log2 ≤ 10 := by
  have := Nat.log2_self_le h0
  have : ¬ 11 ≤ A.log2 := fun h => by have := Nat.pow_le_pow_right (n := 2) (by omega) h; omega
  omega
/-- Small shares stand as their numbers do. -/
theorem order_F (A B : Nat) (hA : A ≤ 1024) (hB : B ≤ 1024) : FloatKind.f64.format.order (F A) (F B) = some (compare A B) := by
  show (double.read (F A)).order (double.read (F B)) = _
  by_cases a0 : A = 0 <;> by_cases b0 : B = 0
  · subst a0 b0; rw [read_F0]; exact order_num 0 0 0 0 0 _ _ (by simp) (by simp)
  · subst a0
    have := log10 B b0 hB
    rw [read_F0, read_F B b0 hB]
    obtain ⟨k, hk⟩ : ∃ k : Nat, k = 1064 := ⟨_, rfl⟩
    refine order_num 0 _ 0 B k _ _ (by simp) ?_
    rw [Nat.shiftLeft_eq, Nat.mul_assoc, ← Nat.pow_add]
    congr 2
    omega
  · subst b0
    have := log10 A a0 hA
    rw [read_F0, read_F A a0 hA]
    obtain ⟨k, hk⟩ : ∃ k : Nat, k = 1064 := ⟨_, rfl⟩
    refine order_num _ 0 A 0 k _ _ ?_ (by simp)
    rw [Nat.shiftLeft_eq, Nat.mul_assoc, ← Nat.pow_add]
    congr 2
    omega
  · have := log10 A a0 hA
    have := log10 B b0 hB
    rw [read_F A a0 hA, read_F B b0 hB]
    refine order_num _ _ A B (52 - min A.log2 B.log2) _ _ ?_ ?_ <;> (rw [Nat.shiftLeft_eq, Nat.mul_assoc, ← Nat.pow_add]; congr 2; omega)
theorem F_zero : F 0 = 0 := by kernel_rfl
theorem F_one : F 1024 = 4607182418800017408 := by kernel_rfl
theorem div_all : ∀ i : Fin 33, ∀ j : Fin 32, 32 * i.val + j.val ≤ 1024 → double.div (floatOfInt .f64 ((32 * i.val + j.val : Nat) : Int)) 4652218415073722368 = some (F (32 * i.val + j.val)) := by decide +kernel
theorem div_F (A : Nat) (h : A ≤ 1024) : FloatKind.f64.format.div (floatOfInt .f64 (A : Int)) 4652218415073722368 = some (F A) := by
  have := div_all ⟨A / 32, by omega⟩ ⟨A % 32, by omega⟩
  simp only [Nat.div_add_mod] at this
  exact this h
theorem sub_all : ∀ i : Fin 33, ∀ j : Fin 32, 32 * i.val + j.val ≤ 1024 → double.sub 4607182418800017408 (F (32 * i.val + j.val)) = some (F (1024 - (32 * i.val + j.val))) := by decide +kernel
theorem sub_F (A : Nat) (h : A ≤ 1024) : FloatKind.f64.format.sub 4607182418800017408 (F A) = some (F (1024 - A)) := by
  have := sub_all ⟨A / 32, by omega⟩ ⟨A % 32, by omega⟩
  simp only [Nat.div_add_mod] at this
  exact this h
end Go.Proofs.Ytdkpohnjcbmnoaa.RatiMath

