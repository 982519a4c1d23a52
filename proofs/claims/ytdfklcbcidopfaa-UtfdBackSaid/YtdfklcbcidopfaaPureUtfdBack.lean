/- UtfdBack: each rune's bytes are that rune again; for any number, without a condition. -/
import Derived.Test.YtdfklcbcidopfaaPUtfdBackx5
import Derived.Test.YtdfklcbcidopfaaKit
import Derived.KernelRfl
import Derived.Test.YtdfklcbcidopfaaWSized
import Derived.Test.YtdfklcbcidopfaaWSized
namespace Go.Proofs.Ytdfklcbcidopfaa
/-- The printed row names this lemma so. -/
abbrev PrintWords.sized_ints := @Go.Proofs.YtdfklcbcidopfaaW.PrintWords.sized_ints
end Go.Proofs.Ytdfklcbcidopfaa
namespace Go.Proofs.Ytdfklcbcidopfaa.Pure
open Go.RowKit Go.Proofs.Ytdfklcbcidopfaa.PUtfdBack Go.Proofs.YtdfklcbcidopfaaW.PrintWords Go.Proofs.YtdfklcbcidopfaaW.PrintLast
set_option linter.unusedVariables false
set_option linter.unusedSimpArgs false
theorem w64 (x : Int) (h0 : -9223372036854775808 ≤ x) (h1 : x ≤ 9223372036854775807) : wrap64 x = x := by unfold wrap64; omega
theorem w32 (x : Int) (h0 : -2147483648 ≤ x) (h1 : x ≤ 2147483647) : wrap32 x = x := by unfold wrap32; omega
theorem awake10 : polyptychlaw1_awake.f 10 = some true := by kernel_rfl
theorem awake_ge (k : Nat) : polyptychlaw1_awake.f (k + 10) = some true := by
  induction k with
  | zero => exact awake10
  | succ k ih => rw [show k + 1 + 10 = (k + 10) + 1 by omega]; exact polyptychlaw1_awake.mono (k + 10) true ih
theorem awake_at (K : Nat) (hK : 10 ≤ K) : polyptychlaw1_awake.f K = some true := by
  have := awake_ge (K - 10)
  rwa [show K - 10 + 10 = K by omega] at this
theorem step_at {n m g x : Int} {r : Int × Int × Int × List Int} (h : utfd_Step.f 5 n m g x = some r) (K : Nat) (hK : 5 ≤ K) : utfd_Step.f K n m g x = some r := by
  have : ∀ j, utfd_Step.f (5 + j) n m g x = some r := by
    intro j
    induction j with
    | zero => exact h
    | succ j ih => exact utfd_Step.mono n m g x (5 + j) r ih
  have := this (K - 5)
  rwa [show 5 + (K - 5) = K by omega] at this
theorem and63 (v : Int) (h0 : 0 ≤ v) (h1 : v < 2097152) : Go.bits .and .i64 v 63 = v % 64 := by
  have hv : (BitVec.ofInt 64 v).toNat = v.toNat := by rw [BitVec.toNat_ofInt]; omega
  have h63 : (BitVec.ofInt 64 63).toNat = 63 := by decide
  have e : Go.bits .and .i64 v 63 = (((BitVec.ofInt 64 v).toNat &&& 63 : Nat) : Int) := by
    show IntKind.i64.wrap ((BitVec.ofInt 64 v &&& BitVec.ofInt 64 63).toNat : Int) = _
    rw [BitVec.toNat_and, IntKind.wrap_i64, h63]
    have hx : (BitVec.ofInt 64 v).toNat &&& 63 ≤ 63 := Nat.and_le_right
    omega
  rw [e, hv, show (63 : Nat) = 2 ^ 6 - 1 from rfl, Nat.and_two_pow_sub_one_eq_mod]
  omega
theorem one_all : ∀ y : Fin 128, utfd_Step.f 5 0 0 0 (y.val : Int) = some (0, 0, 0, [(y.val : Int)]) := by decide +kernel
theorem two_all : ∀ y : Fin 32, utfd_Step.f 5 0 0 0 (192 + (y.val : Int)) = some (1, 128, (y.val : Int), []) := by decide +kernel
theorem three_all : ∀ y : Fin 16, utfd_Step.f 5 0 0 0 (224 + (y.val : Int)) = some (2, 2048, (y.val : Int), []) := by decide +kernel
theorem four_all : ∀ y : Fin 8, utfd_Step.f 5 0 0 0 (240 + (y.val : Int)) = some (3, 65536, (y.val : Int), []) := by decide +kernel
theorem low_all : ∀ z : Fin 64, Go.bits .and .u8 (128 + (z.val : Int)) 63 = (z.val : Int) := by decide +kernel
theorem one (y : Int) (h0 : 0 ≤ y) (h1 : y < 128) : utfd_Step.f 5 0 0 0 y = some (0, 0, 0, [y]) := by
  have := one_all ⟨y.toNat, by omega⟩
  simpa [Int.toNat_of_nonneg h0] using this
theorem two (y : Int) (h0 : 0 ≤ y) (h1 : y < 32) : utfd_Step.f 5 0 0 0 (192 + y) = some (1, 128, y, []) := by
  have := two_all ⟨y.toNat, by omega⟩
  simpa [Int.toNat_of_nonneg h0] using this
theorem three (y : Int) (h0 : 0 ≤ y) (h1 : y < 16) : utfd_Step.f 5 0 0 0 (224 + y) = some (2, 2048, y, []) := by
  have := three_all ⟨y.toNat, by omega⟩
  simpa [Int.toNat_of_nonneg h0] using this
theorem four (y : Int) (h0 : 0 ≤ y) (h1 : y < 8) : utfd_Step.f 5 0 0 0 (240 + y) = some (3, 65536, y, []) := by
  have := four_all ⟨y.toNat, by omega⟩
  simpa [Int.toNat_of_nonneg h0] using this
theorem low (z : Int) (h0 : 0 ≤ z) (h1 : z < 64) : Go.bits .and .u8 (128 + z) 63 = z := by
  have := low_all ⟨z.toNat, by omega⟩
  simpa [Int.toNat_of_nonneg h0] using this
theorem more (n m g z : Int) (hn : 2 ≤ n) (hn3 : n ≤ 3) (hg : 0 ≤ g) (hg2 : g < 100000) (h0 : 0 ≤ z) (h1 : z < 64) : utfd_Step.f 5 n m g (128 + z) = some (n - 1, m, 64 * g + z, []) := by
  unfold utfd_Step.f
  rw [if_neg (by omega), if_neg (by omega)]
  rw [show (5 : Nat) = 4 + 1 from rfl]
  simp only [utfd_Step.j0]
  rw [if_neg (by simp; omega), low z h0 h1, w64 (n - 1) (by omega) (by omega), w64 z (by omega) (by omega), w64 (64 * g) (by omega) (by omega), w64 (64 * g + z) (by omega) (by omega), if_pos (by omega)]
theorem last (m g z : Int) (hg : 0 ≤ g) (hg2 : g < 100000) (h0 : 0 ≤ z) (h1 : z < 64) (hm : m ≤ 64 * g + z) (ho : 64 * g + z ≤ 1114111) (hs : ¬ (55296 ≤ 64 * g + z ∧ 64 * g + z ≤ 57343)) : utfd_Step.f 5 1 m g (128 + z) = some (0, 0, 0, [64 * g + z]) := by
  unfold utfd_Step.f
  rw [if_neg (by omega), if_neg (by omega)]
  rw [show (5 : Nat) = 4 + 1 from rfl]
  simp only [utfd_Step.j0]
  rw [if_neg (by simp; omega), low z h0 h1, w64 (1 - 1) (by omega) (by omega), w64 z (by omega) (by omega), w64 (64 * g) (by omega) (by omega), w64 (64 * g + z) (by omega) (by omega), if_neg (by omega), if_neg (by omega)]
  unfold utfd_no.f
  rw [if_neg (by omega), if_neg (by omega), w32 (64 * g + z) (by omega) (by omega)]
  by_cases c : 64 * g + z ≥ 55296
  · rw [if_pos c, Option.bind_some, if_neg (by simp; omega)]
  · rw [if_neg c, Option.bind_some, if_neg (by decide)]
theorem or_192 : ∀ y : Fin 32, Go.bits .or .i64 192 (y.val : Int) % 256 = 192 + (y.val : Int) := by decide +kernel
theorem or_224 : ∀ y : Fin 16, Go.bits .or .i64 224 (y.val : Int) % 256 = 224 + (y.val : Int) := by decide +kernel
theorem or_240 : ∀ y : Fin 8, Go.bits .or .i64 240 (y.val : Int) % 256 = 240 + (y.val : Int) := by decide +kernel
theorem or_128 : ∀ y : Fin 64, Go.bits .or .i64 128 (y.val : Int) % 256 = 128 + (y.val : Int) := by decide +kernel
theorem or192 (y : Int) (h0 : 0 ≤ y) (h1 : y < 32) : Go.bits .or .i64 192 y % 256 = 192 + y := by
  have := or_192 ⟨y.toNat, by omega⟩
  simpa [Int.toNat_of_nonneg h0] using this
theorem or224 (y : Int) (h0 : 0 ≤ y) (h1 : y < 16) : Go.bits .or .i64 224 y % 256 = 224 + y := by
  have := or_224 ⟨y.toNat, by omega⟩
  simpa [Int.toNat_of_nonneg h0] using this
theorem or240 (y : Int) (h0 : 0 ≤ y) (h1 : y < 8) : Go.bits .or .i64 240 y % 256 = 240 + y := by
  have := or_240 ⟨y.toNat, by omega⟩
  simpa [Int.toNat_of_nonneg h0] using this
theorem or128 (v : Int) (h0 : 0 ≤ v) (h1 : v < 2097152) : Go.bits .or .i64 128 (Go.bits .and .i64 v 63) % 256 = 128 + v % 64 := by
  rw [and63 v h0 h1]
  have := or_128 ⟨(v % 64).toNat, by omega⟩
  simpa [Int.toNat_of_nonneg (show 0 ≤ v % 64 by omega)] using this
/-- A rune's bytes. -/
def enc (u : Int) : List Int := if u < 128 then [u] else if u < 2048 then [192 + u / 64, 128 + u % 64] else if u < 65536 then [224 + u / 4096, 128 + u / 64 % 64, 128 + u % 64] else [240 + u / 262144, 128 + u / 4096 % 64, 128 + u / 64 % 64, 128 + u % 64]
def want (v : Int) : Int := if v > 1114111 then 65533 else if v ≥ 55296 ∧ v ≤ 57343 then 65533 else v
theorem want_in (v : Int) (h0 : 0 ≤ v) : 0 ≤ want v ∧ want v ≤ 1114111 ∧ ¬ (55296 ≤ want v ∧ want v ≤ 57343) := by unfold want; repeat' split <;> omega
theorem put_j (K : Nat) (u : Int) (h0 : 0 ≤ u) (h1 : u ≤ 1114111) : utfd_Put.j0 (K + 1) u = some (enc u) := by
  simp only [utfd_Put.j0]
  unfold enc
  by_cases c1 : u < 128
  · rw [if_pos c1, if_pos c1, show u % 256 = u by omega]
  rw [if_neg c1, if_neg c1]
  by_cases c2 : u < 2048
  · rw [if_pos c2, if_pos c2, or192 _ (by omega) (by omega), or128 u (by omega) (by omega)]
  rw [if_neg c2, if_neg c2]
  by_cases c3 : u < 65536
  · rw [if_pos c3, if_pos c3, or224 _ (by omega) (by omega), or128 u (by omega) (by omega), or128 (u / 64) (by omega) (by omega)]
  rw [if_neg c3, if_neg c3, or240 _ (by omega) (by omega), or128 u (by omega) (by omega), or128 (u / 64) (by omega) (by omega), or128 (u / 4096) (by omega) (by omega)]
theorem put_is (K : Nat) (v : Int) (h0 : 0 ≤ v) (h1 : v < 2097152) : utfd_Put.f (K + 1) v = some (enc (want v)) := by
  unfold utfd_Put.f
  rw [w64 v (by omega) (by omega)]
  unfold utfd_no.f want
  rw [if_neg (by omega)]
  by_cases b : v > 1114111
  · rw [if_pos b, if_pos b, Option.bind_some, if_pos rfl]; exact put_j K 65533 (by omega) (by omega)
  rw [if_neg b, if_neg b]
  by_cases c : v ≥ 55296
  · by_cases d : v ≤ 57343
    · rw [if_pos c, if_pos ⟨c, d⟩, Option.bind_some, if_pos (by simp [d])]; exact put_j K 65533 (by omega) (by omega)
    · rw [if_pos c, if_neg (fun h => d h.2), Option.bind_some, if_neg (by simp; omega)]; exact put_j K v (by omega) (by omega)
  · rw [if_neg c, if_neg (fun h => c h.1), Option.bind_some, if_neg (by decide)]; exact put_j K v (by omega) (by omega)
theorem enc_same (u : Int) (h0 : 0 ≤ u) (h1 : u ≤ 1114111) (hs : ¬ (55296 ≤ u ∧ u ≤ 57343)) : strOfNums (enc u) = Utf8.encode u := by
  have hv : Utf8.valid u = true := by unfold Utf8.valid; simp; omega
  obtain ⟨c, rfl⟩ := Int.eq_ofNat_of_zero_le h0
  unfold Utf8.encode enc strOfNums
  simp only [hv, if_true, Int.toNat_natCast]
  by_cases c1 : (c : Int) < 128
  · rw [if_pos c1, if_pos (show c < 128 by omega)]; simp
  rw [if_neg c1, if_neg (show ¬ c < 128 by omega)]
  by_cases c2 : (c : Int) < 2048
  · rw [if_pos c2, if_pos (show c < 2048 by omega)]
    have a1 : (192 + (c : Int) / 64).toNat = 192 + c / 64 := by omega
    have a2 : (128 + (c : Int) % 64).toNat = 128 + c % 64 := by omega
    simp only [List.map_cons, List.map_nil, a1, a2]
  rw [if_neg c2, if_neg (show ¬ c < 2048 by omega)]
  by_cases c3 : (c : Int) < 65536
  · rw [if_pos c3, if_pos (show c < 65536 by omega)]
    have a1 : (224 + (c : Int) / 4096).toNat = 224 + c / 4096 := by omega
    have a2 : (128 + (c : Int) / 64 % 64).toNat = 128 + c / 64 % 64 := by omega
    have a3 : (128 + (c : Int) % 64).toNat = 128 + c % 64 := by omega
    simp only [List.map_cons, List.map_nil, a1, a2, a3]
  rw [if_neg c3, if_neg (show ¬ c < 65536 by omega)]
  have a1 : (240 + (c : Int) / 262144).toNat = 240 + c / 262144 := by omega
  have a2 : (128 + (c : Int) / 4096 % 64).toNat = 128 + c / 4096 % 64 := by omega
  have a3 : (128 + (c : Int) / 64 % 64).toNat = 128 + c / 64 % 64 := by omega
  have a4 : (128 + (c : Int) % 64).toNat = 128 + c % 64 := by omega
  simp only [List.map_cons, List.map_nil, a1, a2, a3, a4]
theorem go_mid (K : Nat) (v : Int) (l : List Int) (i : Nat) (n m g n' m' g' : Int) (hi : i + 1 < l.length) (hl : l.length ≤ 4) (hK : 5 ≤ K) (hs : utfd_Step.f 5 n m g (rd l (i : Int)) = some (n', m', g', [])) :
    polyptychlaw1_UtfdBack.l0 (K + 1) v l [] (l.length : Int) (i : Int) n m g = polyptychlaw1_UtfdBack.l0 K v l [] (l.length : Int) ((i + 1 : Nat) : Int) n' m' g' := by
  rw [polyptychlaw1_UtfdBack.l0]
  rw [if_pos (by omega), w64 ((l.length : Int) - 1) (by omega) (by omega), if_neg (by omega), if_pos (by omega), if_pos (by omega), step_at hs K hK, Option.bind_some, if_pos (by simp), w64 ((i : Int) + 1) (by omega) (by omega)]
  rfl
theorem go_last (K : Nat) (v u : Int) (l : List Int) (i : Nat) (n m g : Int) (hi : i + 1 = l.length) (hl : l.length ≤ 4) (hK : 5 ≤ K) (hn : n = 0 ∧ i = 0 ∨ 1 ≤ n ∧ 1 ≤ i) (hs : utfd_Step.f 5 n m g (rd l (i : Int)) = some (0, 0, 0, [u])) :
    polyptychlaw1_UtfdBack.l0 (K + 1) v l [] (l.length : Int) (i : Int) n m g = polyptychlaw1_UtfdBack.l0 K v l [u] (l.length : Int) (l.length : Int) 0 0 0 := by
  rw [polyptychlaw1_UtfdBack.l0]
  rw [if_pos (by omega), w64 ((l.length : Int) - 1) (by omega) (by omega), if_pos (by omega), if_neg (by simp)]
  have he : ∃ t, utfd_End.f n m g = some t ∧ (t.length : Int) = mn (i : Int) 1 := by
    unfold utfd_End.f mn
    rcases hn with ⟨a, b⟩ | ⟨a, b⟩
    · rw [if_pos (by omega)]; exact ⟨_, rfl, by rw [if_neg (by omega)]; simp; omega⟩
    · rw [if_neg (by omega)]; refine ⟨_, rfl, ?_⟩; simp only [List.length_singleton]; split <;> omega
  obtain ⟨t, ht, ht2⟩ := he
  rw [ht, Option.bind_some, if_pos ht2, if_pos (by omega), if_pos (by omega), step_at hs K hK, Option.bind_some, if_pos (by simp), w64 ((i : Int) + 1) (by omega) (by omega)]
  rw [show (i : Int) + 1 = (l.length : Int) by omega]
  rfl
theorem go_end (K : Nat) (v : Int) (l : List Int) (hv : 0 ≤ v) (hK : 10 ≤ K) (hl : strOfNums l = Utf8.encode (want v)) : polyptychlaw1_UtfdBack.l0 (K + 1) v l [want v] (l.length : Int) (l.length : Int) 0 0 0 = some true := by
  rw [polyptychlaw1_UtfdBack.l0]
  rw [if_neg (by omega), awake_at K hK, Option.bind_some, hl]
  have hr : rd [want v] 0 = want v := rfl
  rw [hr]
  unfold want
  by_cases b : v > 1114111
  · simp only [if_pos b]; simp
  by_cases c : v ≥ 55296
  · by_cases d : v ≤ 57343
    · simp only [if_neg b, if_pos c, if_pos d, if_pos (And.intro c d)]; simp
    · simp only [if_neg b, if_pos c, if_neg d, if_neg (show ¬ (v ≥ 55296 ∧ v ≤ 57343) from fun h => d h.2)]; simp
  · simp only [if_neg b, if_neg c, if_neg (show ¬ (v ≥ 55296 ∧ v ≤ 57343) from fun h => c h.1)]; simp
theorem go_all (K : Nat) (v : Int) (h0 : 0 ≤ v) : polyptychlaw1_UtfdBack.l0 (K + 20) v (enc (want v)) [] ((enc (want v)).length : Int) 0 0 0 0 = some true := by
  obtain ⟨w0, w1, ws⟩ := want_in v h0
  have he := enc_same (want v) w0 w1 ws
  generalize hu : want v = u at *
  have fin : ∀ (J : Nat), 10 ≤ J → polyptychlaw1_UtfdBack.l0 (J + 1) v (enc u) [u] ((enc u).length : Int) ((enc u).length : Int) 0 0 0 = some true := by
    intro J hJ
    have := go_end J v (enc u) h0 hJ (by rw [hu]; exact he)
    rwa [hu] at this
  obtain ⟨l, hl⟩ : ∃ l, l = enc u := ⟨_, rfl⟩
  rw [← hl] at fin ⊢
  show polyptychlaw1_UtfdBack.l0 (K + 19 + 1) v l [] (l.length : Int) ((0 : Nat) : Int) 0 0 0 = some true
  by_cases c1 : u < 128
  · have e : enc u = [u] := by unfold enc; rw [if_pos c1]
    have n0 : l.length = 1 := by rw [hl, e]; rfl
    have r0 : rd l ((0 : Nat) : Int) = u := by rw [hl, e]; rfl
    clear hl
    rw [go_last (K + 19) v u l 0 0 0 0 (by omega) (by omega) (by omega) (.inl ⟨rfl, rfl⟩) (by rw [r0]; exact one u w0 c1)]
    exact fin (K + 18) (by omega)
  by_cases c2 : u < 2048
  · have e : enc u = [192 + u / 64, 128 + u % 64] := by unfold enc; rw [if_neg c1, if_pos c2]
    have n0 : l.length = 2 := by rw [hl, e]; rfl
    have r0 : rd l ((0 : Nat) : Int) = 192 + u / 64 := by rw [hl, e]; rfl
    have r1 : rd l ((1 : Nat) : Int) = 128 + u % 64 := by rw [hl, e]; rfl
    clear hl
    rw [go_mid (K + 19) v l 0 0 0 0 1 128 (u / 64) (by omega) (by omega) (by omega) (by rw [r0]; exact two (u / 64) (by omega) (by omega))]
    have hs := last 128 (u / 64) (u % 64) (by omega) (by omega) (by omega) (by omega) (by omega) (by omega) (by omega)
    rw [show 64 * (u / 64) + u % 64 = u by omega] at hs
    rw [show K + 19 = (K + 18) + 1 by omega]
    rw [go_last (K + 18) v u l 1 1 128 (u / 64) (by omega) (by omega) (by omega) (.inr ⟨by omega, by omega⟩) (by rw [r1]; exact hs)]
    exact fin (K + 17) (by omega)
  by_cases c3 : u < 65536
  · have e : enc u = [224 + u / 4096, 128 + u / 64 % 64, 128 + u % 64] := by unfold enc; rw [if_neg c1, if_neg c2, if_pos c3]
    have n0 : l.length = 3 := by rw [hl, e]; rfl
    have r0 : rd l ((0 : Nat) : Int) = 224 + u / 4096 := by rw [hl, e]; rfl
    have r1 : rd l ((1 : Nat) : Int) = 128 + u / 64 % 64 := by rw [hl, e]; rfl
    have r2 : rd l ((2 : Nat) : Int) = 128 + u % 64 := by rw [hl, e]; rfl
    clear hl
    rw [go_mid (K + 19) v l 0 0 0 0 2 2048 (u / 4096) (by omega) (by omega) (by omega) (by rw [r0]; exact three (u / 4096) (by omega) (by omega))]
    have hs1 := more 2 2048 (u / 4096) (u / 64 % 64) (by omega) (by omega) (by omega) (by omega) (by omega) (by omega)
    rw [show (2 : Int) - 1 = 1 from rfl] at hs1
    rw [show K + 19 = (K + 18) + 1 by omega]
    rw [go_mid (K + 18) v l 1 2 2048 (u / 4096) 1 2048 (64 * (u / 4096) + u / 64 % 64) (by omega) (by omega) (by omega) (by rw [r1]; exact hs1)]
    have hs := last 2048 (64 * (u / 4096) + u / 64 % 64) (u % 64) (by omega) (by omega) (by omega) (by omega) (by omega) (by omega) (by omega)
    rw [show 64 * (64 * (u / 4096) + u / 64 % 64) + u % 64 = u by omega] at hs
    rw [show K + 18 = (K + 17) + 1 by omega]
    rw [go_last (K + 17) v u l 2 1 2048 _ (by omega) (by omega) (by omega) (.inr ⟨by omega, by omega⟩) (by rw [r2]; exact hs)]
    exact fin (K + 16) (by omega)
  · have e : enc u = [240 + u / 262144, 128 + u / 4096 % 64, 128 + u / 64 % 64, 128 + u % 64] := by unfold enc; rw [if_neg c1, if_neg c2, if_neg c3]
    have n0 : l.length = 4 := by rw [hl, e]; rfl
    have r0 : rd l ((0 : Nat) : Int) = 240 + u / 262144 := by rw [hl, e]; rfl
    have r1 : rd l ((1 : Nat) : Int) = 128 + u / 4096 % 64 := by rw [hl, e]; rfl
    have r2 : rd l ((2 : Nat) : Int) = 128 + u / 64 % 64 := by rw [hl, e]; rfl
    have r3 : rd l ((3 : Nat) : Int) = 128 + u % 64 := by rw [hl, e]; rfl
    clear hl
    rw [go_mid (K + 19) v l 0 0 0 0 3 65536 (u / 262144) (by omega) (by omega) (by omega) (by rw [r0]; exact four (u / 262144) (by omega) (by omega))]
    have hs1 := more 3 65536 (u / 262144) (u / 4096 % 64) (by omega) (by omega) (by omega) (by omega) (by omega) (by omega)
    rw [show (3 : Int) - 1 = 2 from rfl] at hs1
    rw [show K + 19 = (K + 18) + 1 by omega]
    rw [go_mid (K + 18) v l 1 3 65536 (u / 262144) 2 65536 (64 * (u / 262144) + u / 4096 % 64) (by omega) (by omega) (by omega) (by rw [r1]; exact hs1)]
    have hs2 := more 2 65536 (64 * (u / 262144) + u / 4096 % 64) (u / 64 % 64) (by omega) (by omega) (by omega) (by omega) (by omega) (by omega)
    rw [show (2 : Int) - 1 = 1 from rfl] at hs2
    rw [show K + 18 = (K + 17) + 1 by omega]
    rw [go_mid (K + 17) v l 2 2 65536 _ 1 65536 (64 * (64 * (u / 262144) + u / 4096 % 64) + u / 64 % 64) (by omega) (by omega) (by omega) (by rw [r2]; exact hs2)]
    have hs := last 65536 (64 * (64 * (u / 262144) + u / 4096 % 64) + u / 64 % 64) (u % 64) (by omega) (by omega) (by omega) (by omega) (by omega) (by omega) (by omega)
    rw [show 64 * (64 * (64 * (u / 262144) + u / 4096 % 64) + u / 64 % 64) + u % 64 = u by omega] at hs
    rw [show K + 17 = (K + 16) + 1 by omega]
    rw [go_last (K + 16) v u l 3 1 65536 _ (by omega) (by omega) (by omega) (.inr ⟨by omega, by omega⟩) (by rw [r3]; exact hs)]
    exact fin (K + 15) (by omega)
theorem UtfdBack : polyptychlaw1_UtfdBack.Pure := by
  intro r hw
  have h : 0 ≤ Go.bits .and .i64 r 2097151 ∧ Go.bits .and .i64 r 2097151 ≤ 2097151 := Go.Proofs.YtdfklcbcidopfaaKit.and_range 21 (by omega) r
  refine ⟨22, ?_⟩
  unfold polyptychlaw1_UtfdBack.f
  rw [w32 _ (by omega) (by omega)]
  generalize Go.bits .and .i64 r 2097151 = v at *
  rw [put_is 21 v h.1 (by omega), Option.bind_some]
  have hl : 1 ≤ (enc (want v)).length ∧ (enc (want v)).length ≤ 4 := by constructor <;> (unfold enc; (repeat' split) <;> simp)
  have hj : ∀ b, b = false → polyptychlaw1_UtfdBack.j0 (21 + 1) v (enc (want v)) b = some true := by
    intro b hb
    rw [polyptychlaw1_UtfdBack.j0, if_neg (by rw [hb]; decide)]
    exact go_all 1 v h.1
  rw [if_neg (by omega)]
  exact hj _ (decide_eq_false (by omega))

end Go.Proofs.Ytdfklcbcidopfaa.Pure
