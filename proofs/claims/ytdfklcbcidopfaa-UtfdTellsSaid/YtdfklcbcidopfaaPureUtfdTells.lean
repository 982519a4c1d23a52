/- UtfdTells: any bytes are the runes that the document says; for any bytes and any rune, without a condition. -/
import Derived.Test.YtdfklcbcidopfaaPUtfdTellsx6
import Derived.Test.YtdfklcbcidopfaaKit
import Derived.Test.YtdfklcbcidopfaaWSized
import Derived.KernelRfl
import Derived.Test.YtdfklcbcidopfaaWSized
namespace Go.Proofs.Ytdfklcbcidopfaa
/-- The printed row names this lemma so. -/
abbrev PrintWords.sized_ints := @Go.Proofs.YtdfklcbcidopfaaW.PrintWords.sized_ints
end Go.Proofs.Ytdfklcbcidopfaa
namespace Go.Proofs.Ytdfklcbcidopfaa.Pure
open Go.RowKit Go.Proofs.Ytdfklcbcidopfaa.PUtfdTells Go.Proofs.YtdfklcbcidopfaaW.PrintWords Go.Proofs.YtdfklcbcidopfaaW.PrintLast
theorem w64 (x : Int) (h0 : -9223372036854775808 ≤ x) (h1 : x ≤ 9223372036854775807) : wrap64 x = x := by unfold wrap64; omega
theorem w32 (x : Int) (h0 : -2147483648 ≤ x) (h1 : x ≤ 2147483647) : wrap32 x = x := by unfold wrap32; omega
theorem w32of (x : Int) : -2147483648 ≤ wrap32 x ∧ wrap32 x ≤ 2147483647 := by unfold wrap32; omega
theorem awake10 : polyptychlaw1_awake.f 10 = some true := by kernel_rfl
theorem awake_ge (k : Nat) : polyptychlaw1_awake.f (k + 10) = some true := by
  induction k with
  | zero => exact awake10
  | succ k ih => rw [show k + 1 + 10 = (k + 10) + 1 by omega]; exact polyptychlaw1_awake.mono (k + 10) true ih
theorem and_all : ∀ x : Fin 256, wrap64 (Go.bits .and .u8 (x.val : Int) 31) = Go.bits .and .i64 (x.val : Int) 31 ∧ wrap64 (Go.bits .and .u8 (x.val : Int) 15) = Go.bits .and .i64 (x.val : Int) 15 ∧ wrap64 (Go.bits .and .u8 (x.val : Int) 7) = Go.bits .and .i64 (x.val : Int) 7 := by
  unfold wrap64
  decide +kernel
theorem and_same (x : Int) (h0 : 0 ≤ x) (h1 : x ≤ 255) : wrap64 (Go.bits .and .u8 x 31) = Go.bits .and .i64 x 31 ∧ wrap64 (Go.bits .and .u8 x 15) = Go.bits .and .i64 x 15 ∧ wrap64 (Go.bits .and .u8 x 7) = Go.bits .and .i64 x 7 := by
  have := and_all ⟨x.toNat, by omega⟩
  simpa [Int.toNat_of_nonneg h0] using this
theorem or_192 : ∀ y : Fin 32, Go.bits .or .i64 192 (y.val : Int) = 192 + (y.val : Int) := by decide +kernel
theorem or_224 : ∀ y : Fin 16, Go.bits .or .i64 224 (y.val : Int) = 224 + (y.val : Int) := by decide +kernel
theorem or_240 : ∀ y : Fin 8, Go.bits .or .i64 240 (y.val : Int) = 240 + (y.val : Int) := by decide +kernel
theorem or_128 : ∀ y : Fin 64, Go.bits .or .i64 128 (y.val : Int) = 128 + (y.val : Int) := by decide +kernel
theorem or192 (y : Int) (h0 : 0 ≤ y) (h1 : y < 32) : Go.bits .or .i64 192 y = wrap64 (192 + y) := by
  have := or_192 ⟨y.toNat, by omega⟩
  rw [w64 _ (by omega) (by omega)]
  simpa [Int.toNat_of_nonneg h0] using this
theorem or224 (y : Int) (h0 : 0 ≤ y) (h1 : y < 16) : Go.bits .or .i64 224 y = wrap64 (224 + y) := by
  have := or_224 ⟨y.toNat, by omega⟩
  rw [w64 _ (by omega) (by omega)]
  simpa [Int.toNat_of_nonneg h0] using this
theorem or240 (y : Int) (h0 : 0 ≤ y) (h1 : y < 8) : Go.bits .or .i64 240 y = wrap64 (240 + y) := by
  have := or_240 ⟨y.toNat, by omega⟩
  rw [w64 _ (by omega) (by omega)]
  simpa [Int.toNat_of_nonneg h0] using this
theorem or128 (z : Int) : Go.bits .or .i64 128 (Go.bits .and .i64 z 63) = wrap64 (128 + Go.bits .and .i64 z 63) := by
  have h : 0 ≤ Go.bits .and .i64 z 63 ∧ Go.bits .and .i64 z 63 ≤ 63 := Go.Proofs.YtdfklcbcidopfaaKit.and_range 6 (by omega) z
  generalize Go.bits .and .i64 z 63 = y at *
  have := or_128 ⟨y.toNat, by omega⟩
  rw [w64 _ (by omega) (by omega)]
  simpa [Int.toNat_of_nonneg h.1] using this
/-- A byte with nothing begun is the same to both. -/
theorem begin_same (k : Nat) (x : Int) (h0 : 0 ≤ x) (h1 : x ≤ 255) : ∃ n m g l, utfd_begin.f (k + 2) x = some (n, m, g, l) ∧ polyptychref1_first.f (k + 2) x = some (n, m, g, l) ∧ 0 ≤ n ∧ n ≤ 3 ∧ 0 ≤ m ∧ l.length ≤ 1 := by
  obtain ⟨a1, a2, a3⟩ := and_same x h0 h1
  unfold utfd_begin.f polyptychref1_first.f
  rw [w64 x (by omega) (by omega)]
  simp only [utfd_begin.j0, utfd_begin.j1, polyptychref1_first.j0, polyptychref1_first.j1, a1, a2, a3]
  by_cases c1 : x < 128
  · rw [if_pos c1, if_pos c1]; exact ⟨_, _, _, _, rfl, rfl, by omega, by omega, by omega, by simp⟩
  rw [if_neg c1, if_neg c1]
  have d1 : decide (x < 224) = decide (x ≤ 223) := by rw [decide_eq_decide]; omega
  have d2 : decide (x < 240) = decide (x ≤ 239) := by rw [decide_eq_decide]; omega
  have d3 : (x < 248) = (x ≤ 247) := by rw [eq_iff_iff]; omega
  rw [d1, d2]
  simp only [d3]
  (repeat' split) <;> first | exact ⟨_, _, _, _, rfl, rfl, by omega, by omega, by omega, by simp⟩ | (exfalso; simp_all; done) | (exfalso; simp_all; omega)
theorem step_same (k : Nat) (n m g x : Int) (h0 : 0 ≤ x) (h1 : x ≤ 255) (hn : 0 ≤ n) (hn3 : n ≤ 3) (hm : 0 ≤ m) : ∃ n' m' g' l, utfd_Step.f (k + 3) n m g x = some (n', m', g', l) ∧ polyptychref1_Utf.f (k + 3) n m g x = some (n', m', g', l) ∧ 0 ≤ n' ∧ n' ≤ 3 ∧ 0 ≤ m' := by
  unfold utfd_Step.f polyptychref1_Utf.f
  by_cases c1 : n ≤ 0
  · rw [if_pos c1, if_pos c1]
    obtain ⟨n', m', g', l, e, e', h⟩ := begin_same (k + 1) x h0 h1
    rw [e, e']
    exact ⟨_, _, _, _, rfl, rfl, h.1, h.2.1, h.2.2.1⟩
  rw [if_neg c1, if_neg c1]
  have hj : ∀ b : Bool, ∃ n' m' g' l, utfd_Step.j0 (k + 3) x b n m g = some (n', m', g', l) ∧ polyptychref1_Utf.j0 (k + 3) x b n m g = some (n', m', g', l) ∧ 0 ≤ n' ∧ n' ≤ 3 ∧ 0 ≤ m' := by
    intro b
    simp only [utfd_Step.j0, polyptychref1_Utf.j0]
    rw [w64 (n - 1) (by omega) (by omega)]
    generalize wrap64 (wrap64 (64 * g) + wrap64 (bits BinOp.and IntKind.u8 x 63)) = G
    obtain ⟨n', m', g', l, e, e', h⟩ := begin_same k x h0 h1
    rw [e, e']
    simp only [Option.bind_some]
    have hlen : ([65533] : List Int).length + l.length < 35184372088832 := by have := h.2.2.2; simp only [List.length_singleton]; omega
    rw [if_pos hlen]
    by_cases cb : b = true
    · rw [if_pos cb, if_pos cb]
      exact ⟨_, _, _, _, rfl, rfl, h.1, h.2.1, h.2.2.1⟩
    · rw [if_neg cb, if_neg cb]
      by_cases c2 : n - 1 > 0
      · rw [if_pos c2, if_pos c2]
        exact ⟨_, _, _, _, rfl, rfl, by omega, by omega, hm⟩
      · rw [if_neg c2, if_neg c2]
        have hbad : ∃ n' m' g' l, some ((0 : Int), (0 : Int), (0 : Int), ([65533] : List Int)) = some (n', m', g', l) ∧ some ((0 : Int), (0 : Int), (0 : Int), ([65533] : List Int)) = some (n', m', g', l) ∧ 0 ≤ n' ∧ n' ≤ 3 ∧ 0 ≤ m' := ⟨_, _, _, _, rfl, rfl, by omega, by omega, by omega⟩
        have hgood : ∃ n' m' g' l, some ((0 : Int), (0 : Int), (0 : Int), ([wrap32 G] : List Int)) = some (n', m', g', l) ∧ some ((0 : Int), (0 : Int), (0 : Int), ([wrap32 G] : List Int)) = some (n', m', g', l) ∧ 0 ≤ n' ∧ n' ≤ 3 ∧ 0 ≤ m' := ⟨_, _, _, _, rfl, rfl, by omega, by omega, by omega⟩
        unfold polyptychref1_rune1.f utfd_no.f
        by_cases u : G < m
        · simp only [if_pos u, Option.bind_some]; exact hbad
        by_cases v : G > 1114111
        · simp only [if_neg u, if_neg (show ¬ G < 0 by omega), if_pos v, Option.bind_some, if_true]; exact hbad
        by_cases y : G ≥ 55296
        · by_cases z : G ≤ 57343
          · simp only [if_neg u, if_neg (show ¬ G < 0 by omega), if_neg v, if_pos y, if_pos z, decide_eq_true z, Option.bind_some, if_true]; exact hbad
          · simp only [if_neg u, if_neg (show ¬ G < 0 by omega), if_neg v, if_pos y, if_neg z, decide_eq_false z, Option.bind_some, Bool.false_eq_true, if_false]; exact hgood
        · simp only [if_neg u, if_neg (show ¬ G < 0 by omega), if_neg v, if_neg y, Option.bind_some, Bool.false_eq_true, if_false]; exact hgood
  by_cases c2 : x < 128
  · rw [if_pos c2, if_pos c2]; exact hj _
  · rw [if_neg c2, if_neg c2]; exact hj _
theorem end_same (n m g : Int) : ∃ q, utfd_End.f n m g = some q ∧ polyptychref1_End.f n m g = some q := by
  unfold utfd_End.f polyptychref1_End.f
  by_cases c : n ≤ 0
  · rw [if_pos c, if_neg (by omega)]; exact ⟨_, rfl, rfl⟩
  · rw [if_neg c, if_pos (by omega)]; exact ⟨_, rfl, rfl⟩
theorem put_num (k : Nat) (v : Int) (h0 : 0 ≤ v) (h1 : v ≤ 1114111) : ∃ q, utfd_Put.j0 (k + 1) v = some q ∧ (if v < 128 then (some (([v % 256] : List Int))) else (if v < 2048 then (some (([(wrap64 (192 + (v / 64))) % 256, (wrap64 (128 + (Go.bits .and .i64 v 63))) % 256] : List Int))) else (if v < 65536 then (some (([(wrap64 (224 + (v / 4096))) % 256, (wrap64 (128 + (Go.bits .and .i64 (v / 64) 63))) % 256, (wrap64 (128 + (Go.bits .and .i64 v 63))) % 256] : List Int))) else (some (([(wrap64 (240 + (v / 262144))) % 256, (wrap64 (128 + (Go.bits .and .i64 (v / 4096) 63))) % 256, (wrap64 (128 + (Go.bits .and .i64 (v / 64) 63))) % 256, (wrap64 (128 + (Go.bits .and .i64 v 63))) % 256] : List Int)))))) = some q := by
  simp only [utfd_Put.j0, or128]
  by_cases c1 : v < 128
  · rw [if_pos c1, if_pos c1]; exact ⟨_, rfl, rfl⟩
  rw [if_neg c1, if_neg c1]
  by_cases c2 : v < 2048
  · rw [if_pos c2, if_pos c2, or192 (v / 64) (by omega) (by omega)]; exact ⟨_, rfl, rfl⟩
  rw [if_neg c2, if_neg c2]
  by_cases c3 : v < 65536
  · rw [if_pos c3, if_pos c3, or224 (v / 4096) (by omega) (by omega)]; exact ⟨_, rfl, rfl⟩
  rw [if_neg c3, if_neg c3, or240 (v / 262144) (by omega) (by omega)]
  exact ⟨_, rfl, rfl⟩
theorem put_same (k : Nat) (v : Int) (h0 : -2147483648 ≤ v) (h1 : v ≤ 2147483647) : ∃ q, utfd_Put.f (k + 1) v = some q ∧ polyptychref1_Put.f v = some q := by
  unfold utfd_Put.f polyptychref1_Put.f
  rw [w64 v (by omega) (by omega)]
  have hbad := put_num k 65533 (by omega) (by omega)
  unfold utfd_no.f polyptychref1_rune1.f
  by_cases a : v < 0
  · simp only [if_pos a, Option.bind_some, if_true]; rw [w64 65533 (by omega) (by omega)]; exact hbad
  by_cases b : v > 1114111
  · simp only [if_neg a, if_pos b, Option.bind_some, if_true]; rw [w64 65533 (by omega) (by omega)]; exact hbad
  have hgood := put_num k v (by omega) (by omega)
  have hv := w32 v (by omega) (by omega)
  by_cases c : v ≥ 55296
  · by_cases d : v ≤ 57343
    · simp only [if_neg a, if_neg b, if_pos c, if_pos d, Option.bind_some, decide_eq_true d, if_true]; rw [w64 65533 (by omega) (by omega)]; exact hbad
    · simp only [if_neg a, if_neg b, if_pos c, if_neg d, Option.bind_some, decide_eq_false d, Bool.false_eq_true, if_false, hv]; rw [w64 v (by omega) (by omega)]; exact hgood
  · simp only [if_neg a, if_neg b, if_neg c, Option.bind_some, Bool.false_eq_true, if_false, hv]; rw [w64 v (by omega) (by omega)]; exact hgood
theorem step_at (K : Nat) (hK : 3 ≤ K) (n m g x : Int) (h0 : 0 ≤ x) (h1 : x ≤ 255) (hn : 0 ≤ n) (hn3 : n ≤ 3) (hm : 0 ≤ m) : ∃ n' m' g' l, utfd_Step.f K n m g x = some (n', m', g', l) ∧ polyptychref1_Utf.f K n m g x = some (n', m', g', l) ∧ 0 ≤ n' ∧ n' ≤ 3 ∧ 0 ≤ m' := by
  have := step_same (K - 3) n m g x h0 h1 hn hn3 hm
  rwa [show K - 3 + 3 = K by omega] at this
theorem put_at (K : Nat) (hK : 1 ≤ K) (v : Int) (h0 : -2147483648 ≤ v) (h1 : v ≤ 2147483647) : ∃ q, utfd_Put.f K v = some q ∧ polyptychref1_Put.f v = some q := by
  have := put_same (K - 1) v h0 h1
  rwa [show K - 1 + 1 = K by omega] at this
theorem awake_at (K : Nat) (hK : 10 ≤ K) : polyptychlaw1_awake.f K = some true := by
  have := awake_ge (K - 10)
  rwa [show K - 10 + 10 = K by omega] at this
theorem same_at (t : List Int) : polyptychref1_SameRunes.f t t = some true := by unfold polyptychref1_SameRunes.f; rw [if_pos rfl]
theorem loop (l : List Int) (b r : Int) (hN : l.length ≤ 500) (hb : ∀ x ∈ l, (Lit.int .u8 x).wf = true) (hb0 : 0 ≤ b) (hb1 : b ≤ 255) : ∀ (q i K : Nat) (n m g : Int), i + q = l.length → q + 13 ≤ K → 0 ≤ n → n ≤ 3 → 0 ≤ m →
    polyptychlaw1_UtfdTells.l0 (K + 1) l b r (i : Int) n m g = some true := by
  intro q
  induction q with
  | zero =>
    intro i K n m g hi hK h0 h3 hm
    rw [polyptychlaw1_UtfdTells.l0]
    rw [if_neg (by omega)]
    obtain ⟨n', m', g', t, e, e', _⟩ := step_at K (by omega) n m g b hb0 hb1 h0 h3 hm
    rw [e, e', Option.bind_some, Option.bind_some]
    rw [if_pos (by simp), same_at, Option.bind_some, if_pos rfl]
    obtain ⟨p1, f1, f2⟩ := put_at K (by omega) (wrap32 r) (w32of _).1 (w32of _).2
    obtain ⟨p2, g1, g2⟩ := put_at K (by omega) (wrap32 (bits BinOp.and IntKind.i64 r 2097151)) (w32of _).1 (w32of _).2
    rw [f1, f2, Option.bind_some, Option.bind_some, if_pos rfl, g1, g2, Option.bind_some, Option.bind_some, if_pos rfl, awake_at K (by omega), Option.bind_some]
  | succ q ih =>
    intro i K n m g hi hK h0 h3 hm
    rw [polyptychlaw1_UtfdTells.l0]
    rw [if_pos (by omega), if_pos (by omega)]
    have hx : 0 ≤ rd l (i : Int) ∧ rd l (i : Int) ≤ 255 := by
      have hm : rd l (i : Int) ∈ l := by
        unfold rd
        simp only [Int.toNat_natCast]
        rw [List.getD_eq_getElem?_getD, List.getElem?_eq_getElem (by omega)]
        exact List.getElem_mem _
      have hw := hb _ hm
      simp [Lit.wf, IntKind.min, IntKind.max, IntKind.signed, IntKind.bits] at hw
      omega
    obtain ⟨n', m', g', t, e, e', k0, k3, km⟩ := step_at K (by omega) n m g (rd l (i : Int)) hx.1 hx.2 h0 h3 hm
    rw [e, e', Option.bind_some, Option.bind_some]
    rw [if_neg (by simp), same_at, Option.bind_some, if_pos rfl]
    obtain ⟨z, z1, z2⟩ := end_same n' m' g'
    rw [z1, z2, Option.bind_some, Option.bind_some, same_at, Option.bind_some, if_pos rfl]
    rw [show wrap64 ((i : Int) + 1) = ((i + 1 : Nat) : Int) by rw [w64 _ (by omega) (by omega)]; omega]
    obtain ⟨K', rfl⟩ : ∃ K', K = K' + 1 := ⟨K - 1, by omega⟩
    exact ih (i + 1) K' n' m' g' (by omega) (by omega) k0 k3 km
theorem UtfdTells : polyptychlaw1_UtfdTells.Pure := by
  intro l b r hl1 hl2 hb hwb hwr
  refine ⟨l.length + 14, ?_⟩
  unfold polyptychlaw1_UtfdTells.f
  split
  · rw [awake_at _ (by omega)]
    rfl
  · simp [Lit.wf, IntKind.min, IntKind.max, IntKind.signed, IntKind.bits] at hwb
    exact loop l b r (by omega) hb hwb.1 (by omega) l.length 0 (l.length + 13) 0 0 0 (by omega) (by omega) (by omega) (by omega) (by omega)

end Go.Proofs.Ytdfklcbcidopfaa.Pure
