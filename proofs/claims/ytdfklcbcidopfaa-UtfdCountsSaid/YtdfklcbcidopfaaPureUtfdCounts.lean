/- UtfdCounts: no byte ends more than two runes; for any bytes, without a condition. -/
import Derived.Test.YtdfklcbcidopfaaPUtfdCountsx5
import Derived.Test.YtdfklcbcidopfaaWSized
import Derived.Test.YtdfklcbcidopfaaWSized
namespace Go.Proofs.Ytdfklcbcidopfaa
/-- The printed row names this lemma so. -/
abbrev PrintWords.sized_ints := @Go.Proofs.YtdfklcbcidopfaaW.PrintWords.sized_ints
end Go.Proofs.Ytdfklcbcidopfaa
namespace Go.Proofs.Ytdfklcbcidopfaa.Pure
open Go.RowKit Go.Proofs.Ytdfklcbcidopfaa.PUtfdCounts Go.Proofs.YtdfklcbcidopfaaW.PrintWords Go.Proofs.YtdfklcbcidopfaaW.PrintLast
theorem w64 (x : Int) (h0 : -9223372036854775808 ≤ x) (h1 : x ≤ 9223372036854775807) : wrap64 x = x := by unfold wrap64; omega
theorem w64of (x : Int) : -9223372036854775808 ≤ wrap64 x ∧ wrap64 x ≤ 9223372036854775807 := by unfold wrap64; omega
/-- What a byte begins, or is. -/
theorem begin_ok (k : Nat) (x : Int) (h0 : 0 ≤ x) (h1 : x ≤ 255) : ∃ n m g l, utfd_begin.f (k + 2) x = some (n, m, g, l) ∧ ((n = 0 ∧ m = 0 ∧ g = 0 ∧ l.length = 1) ∨ (1 ≤ n ∧ n ≤ 3 ∧ l = [])) := by
  unfold utfd_begin.f
  rw [w64 x (by omega) (by omega)]
  split
  · exact ⟨_, _, _, _, rfl, .inl ⟨rfl, rfl, rfl, rfl⟩⟩
  · have hj1 : ∀ b : Bool, ∃ n m g l, utfd_begin.j1 (k + 1) x b = some (n, m, g, l) ∧ ((n = 0 ∧ m = 0 ∧ g = 0 ∧ l.length = 1) ∨ (1 ≤ n ∧ n ≤ 3 ∧ l = [])) := by
      intro b
      simp only [utfd_begin.j1]
      repeat' split
      all_goals first | exact ⟨_, _, _, _, rfl, .inl ⟨rfl, rfl, rfl, rfl⟩⟩ | exact ⟨_, _, _, _, rfl, .inr ⟨by omega, by omega, rfl⟩⟩
    have hj0 : ∀ b : Bool, ∃ n m g l, utfd_begin.j0 (k + 2) x b = some (n, m, g, l) ∧ ((n = 0 ∧ m = 0 ∧ g = 0 ∧ l.length = 1) ∨ (1 ≤ n ∧ n ≤ 3 ∧ l = [])) := by
      intro b
      simp only [utfd_begin.j0]
      split
      · exact ⟨_, _, _, _, rfl, .inr ⟨by omega, by omega, rfl⟩⟩
      · split
        · exact hj1 _
        · exact hj1 _
    split
    · exact hj0 _
    · exact hj0 _
/-- What one byte more does. -/
theorem step_ok (k : Nat) (n m g x : Int) (h0 : 0 ≤ x) (h1 : x ≤ 255) (hn : 0 ≤ n) (hn3 : n ≤ 3) : ∃ n' m' g' l, utfd_Step.f (k + 3) n m g x = some (n', m', g', l) ∧
    ((n' = 0 ∧ m' = 0 ∧ g' = 0 ∧ 1 ≤ l.length ∧ l.length ≤ 2) ∨ (n = 0 ∧ 1 ≤ n' ∧ n' ≤ 3 ∧ l = []) ∨ (1 ≤ n ∧ n' = n - 1 ∧ 1 ≤ n' ∧ l = []) ∨ (1 ≤ n ∧ 1 ≤ n' ∧ n' ≤ 3 ∧ l = [65533])) := by
  unfold utfd_Step.f
  split
  · obtain ⟨n', m', g', l, e, h⟩ := begin_ok (k + 1) x h0 h1
    rw [e]
    refine ⟨_, _, _, _, rfl, ?_⟩
    rcases h with ⟨a, b, c, d⟩ | ⟨a, b, c⟩
    · exact .inl ⟨a, b, c, show 1 ≤ l.length by omega, show l.length ≤ 2 by omega⟩
    · exact .inr (.inl ⟨by omega, a, b, c⟩)
  · rename_i hpos
    have hj0 : ∀ b : Bool, ∃ n' m' g' l, utfd_Step.j0 (k + 3) x b n m g = some (n', m', g', l) ∧
      ((n' = 0 ∧ m' = 0 ∧ g' = 0 ∧ 1 ≤ l.length ∧ l.length ≤ 2) ∨ (n = 0 ∧ 1 ≤ n' ∧ n' ≤ 3 ∧ l = []) ∨ (1 ≤ n ∧ n' = n - 1 ∧ 1 ≤ n' ∧ l = []) ∨ (1 ≤ n ∧ 1 ≤ n' ∧ n' ≤ 3 ∧ l = [65533])) := by
      intro b
      simp only [utfd_Step.j0]
      rw [w64 (n - 1) (by omega) (by omega)]
      generalize wrap64 (wrap64 (64 * g) + wrap64 (bits BinOp.and IntKind.u8 x 63)) = G
      split
      · obtain ⟨n', m', g', l, e, h⟩ := begin_ok k x h0 h1
        rw [e]
        simp only [Option.bind_some]
        have hl : l.length ≤ 1 := by rcases h with ⟨_, _, _, d⟩ | ⟨_, _, d⟩ <;> (try subst d) <;> simp_all
        rw [if_pos (show ([65533] : List Int).length + l.length < 35184372088832 by simp only [List.length_singleton]; omega)]
        refine ⟨_, _, _, _, rfl, ?_⟩
        rcases h with ⟨a, b, c, d⟩ | ⟨a, b, c⟩
        · exact .inl ⟨a, b, c, by simp, by simp; omega⟩
        · subst c
          exact .inr (.inr (.inr ⟨by omega, a, b, rfl⟩))
      · split
        · exact ⟨_, _, _, _, rfl, .inr (.inr (.inl ⟨by omega, rfl, by omega, rfl⟩))⟩
        · split
          · exact ⟨_, _, _, _, rfl, .inl ⟨rfl, rfl, rfl, by simp, by simp⟩⟩
          · obtain ⟨t, ht⟩ : ∃ t, utfd_no.f G = some t := by unfold utfd_no.f; (repeat' split) <;> exact ⟨_, rfl⟩
            rw [ht]
            simp only [Option.bind_some]
            split
            · exact ⟨_, _, _, _, rfl, .inl ⟨rfl, rfl, rfl, by simp, by simp⟩⟩
            · exact ⟨_, _, _, _, rfl, .inl ⟨rfl, rfl, rfl, by simp, by simp⟩⟩
    split
    · exact hj0 _
    · exact hj0 _
theorem awake10 : polyptychlaw1_awake.f 10 = some true := by kernel_rfl
theorem awake_ge (k : Nat) : polyptychlaw1_awake.f (k + 10) = some true := by
  induction k with
  | zero => exact awake10
  | succ k ih => rw [show k + 1 + 10 = (k + 10) + 1 by omega]; exact polyptychlaw1_awake.mono (k + 10) true ih

theorem loop (N : Nat) (l : List Int) (hl : l.length = N) (hN : N ≤ 500) (hb : ∀ x ∈ l, (Lit.int .u8 x).wf = true) : ∀ (r i : Nat) (n m g op : Int), i + r = N →
    ((n = 0 ∧ op = 0) ∨ (1 ≤ n ∧ n ≤ 3 ∧ 1 ≤ op ∧ op + n ≤ 4)) → polyptychlaw1_UtfdCounts.l0 (4 * r + 13) l op (N : Int) (i : Int) n m g = some true := by
  intro r
  induction r with
  | zero =>
    intro i n m g op hi hinv
    rw [show 4 * 0 + 13 = 12 + 1 from rfl]
    simp only [polyptychlaw1_UtfdCounts.l0]
    rw [if_neg (by omega)]
    have : utfd_End.f 0 0 0 = some [] := rfl
    rw [this]
    simp only [Option.bind_some]
    have : polyptychref1_SameRunes.f [] [] = some true := rfl
    rw [this]
    simp only [Option.bind_some, if_true]
    rw [awake_ge 2]
    rfl
  | succ r ih =>
    intro i n m g op hi hinv
    rw [show 4 * (r + 1) + 13 = (4 * r + 13 + 3) + 1 by omega]
    simp only [polyptychlaw1_UtfdCounts.l0]
    rw [if_pos (by omega), if_pos (by omega), if_pos (by omega)]
    have hx : 0 ≤ rd l (i : Int) ∧ rd l (i : Int) ≤ 255 := by
      have hm : rd l (i : Int) ∈ l := by
        unfold rd
        simp only [Int.toNat_natCast]
        rw [List.getD_eq_getElem?_getD, List.getElem?_eq_getElem (by omega)]
        exact List.getElem_mem _
      have hw := hb _ hm
      simp [Lit.wf, IntKind.min, IntKind.max, IntKind.signed, IntKind.bits] at hw
      omega
    obtain ⟨n', m', g', t, e, h⟩ := step_ok (4 * r + 13) n m g (rd l (i : Int)) hx.1 hx.2 (by omega) (by omega)
    rw [e]
    simp only [Option.bind_some]
    have hi' : wrap64 ((i : Int) + 1) = ((i + 1 : Nat) : Int) := by rw [w64 _ (by omega) (by omega)]; omega
    have hend : ∀ q, 0 ≤ n' → utfd_End.f n' m' g' = some q → (q.length : Int) = mn n' 1 := by
      intro q hq he
      unfold utfd_End.f at he
      split at he
      · obtain rfl := Option.some.inj he
        have : n' = 0 := by omega
        subst this; rfl
      · obtain rfl := Option.some.inj he
        unfold mn
        simp only [List.length_singleton]
        split <;> omega
    have hend2 : ∃ q, utfd_End.f n' m' g' = some q := by unfold utfd_End.f; split <;> exact ⟨_, rfl⟩
    obtain ⟨q, hq⟩ := hend2
    have hop : wrap64 (op + 1) = op + 1 := w64 _ (by omega) (by omega)
    have fin : ∀ op', ((n' = 0 ∧ op' = 0) ∨ (1 ≤ n' ∧ n' ≤ 3 ∧ 1 ≤ op' ∧ op' + n' ≤ 4)) → polyptychlaw1_UtfdCounts.l0 (4 * r + 13) l op' (N : Int) (wrap64 ((i : Int) + 1)) n' m' g' = some true := by
      intro op' hinv'
      rw [hi']
      exact ih (i + 1) n' m' g' op' (by omega) hinv'
    have h3 : ∀ op' (x67 : Bool), (x67 = true → (n' = 0 ∧ (1 : Int) = 0) ∨ (1 ≤ n' ∧ n' ≤ 3 ∧ 1 + n' ≤ 4)) → (x67 = false → ((n' = 0 ∧ op' = 0) ∨ (1 ≤ n' ∧ n' ≤ 3 ∧ 1 ≤ op' ∧ op' + n' ≤ 4))) → 0 ≤ n' →
        polyptychlaw1_UtfdCounts.j3 (4 * r + 13 + 1) l op' (N : Int) (i : Int) x67 n' m' g' = some true := by
      intro op' x67 hx1 hx2 hn
      simp only [polyptychlaw1_UtfdCounts.j3]
      rw [hq]
      simp only [Option.bind_some]
      cases x67 with
      | true =>
        rw [if_pos rfl, if_neg (by omega), if_pos (hend q hn hq)]
        refine fin 1 ?_
        rcases hx1 rfl with ⟨_, h⟩ | ⟨h1, h2, h3⟩
        · omega
        · exact .inr ⟨h1, h2, by omega, h3⟩
      | false =>
        have := hx2 rfl
        rw [if_neg (by decide), if_neg (by omega), if_pos (hend q hn hq)]
        exact fin op' this
    rcases h with ⟨a, b, c, d1, d2⟩ | ⟨z, a, b, c⟩ | ⟨z, a, b, c⟩ | ⟨z, a, b, c⟩
    · subst a b c
      rw [if_neg (by omega), if_neg (by omega), if_neg (by omega), if_pos rfl, if_neg (by omega)]
      simp only [polyptychlaw1_UtfdCounts.j1]
      rw [if_neg (by decide), if_neg (by decide)]
      simp only [polyptychlaw1_UtfdCounts.j2]
      rw [if_pos (by omega)]
      exact h3 0 _ (by intro h; simp at h) (fun _ => .inl ⟨rfl, rfl⟩) (by omega)
    all_goals subst c
    · rw [if_neg (by simp), if_neg (by omega), if_neg (by omega), if_neg (by omega)]
      simp only [polyptychlaw1_UtfdCounts.j1]
      rw [if_neg (by decide), if_pos (by omega)]
      simp only [polyptychlaw1_UtfdCounts.j2]
      rw [if_neg (by simp), hop]
      exact h3 _ _ (by intro h; simp at h) (fun _ => .inr ⟨by omega, by omega, by omega, by omega⟩) (by omega)
    · rw [if_neg (by simp), if_neg (by omega), if_neg (by omega), if_neg (by omega)]
      simp only [polyptychlaw1_UtfdCounts.j1]
      rw [if_neg (by decide), if_pos (by omega)]
      simp only [polyptychlaw1_UtfdCounts.j2]
      rw [if_neg (by simp), hop]
      exact h3 _ _ (by intro h; simp at h) (fun _ => .inr ⟨by omega, by omega, by omega, by omega⟩) (by omega)
    · rw [if_neg (by simp), if_neg (by omega), if_neg (by omega), if_neg (by omega)]
      simp only [polyptychlaw1_UtfdCounts.j1]
      rw [if_neg (by decide), if_pos (by omega)]
      simp only [polyptychlaw1_UtfdCounts.j2]
      rw [if_pos (by simp)]
      exact h3 _ _ (fun _ => .inr ⟨by omega, by omega, by omega⟩) (by intro h; simp at h; omega) (by omega)
theorem UtfdCounts : polyptychlaw1_UtfdCounts.Pure := by
  intro l hl1 hl2 hb
  refine ⟨4 * l.length + 13, ?_⟩
  unfold polyptychlaw1_UtfdCounts.f
  split
  · rw [show 4 * l.length + 13 = (4 * l.length + 3) + 10 by omega, awake_ge]
    rfl
  · exact loop l.length l rfl (by omega) hb l.length 0 0 0 0 0 (by omega) (.inl ⟨rfl, rfl⟩)

end Go.Proofs.Ytdfklcbcidopfaa.Pure
