/- AtomPlays: a cell holds what was stored, swapped and added last and tells how often that was: for any number at first and any script with any numbers, without a condition. -/
import Derived.Test.YtbmbejgkkadklaaPAtomPlaysx2
import Derived.Test.YtbmbejgkkadklaaWSized
namespace Go.Proofs.Ytbmbejgkkadklaa
/-- The printed row names this lemma so. -/
abbrev PrintWords.sized_ints := @Go.Proofs.YtbmbejgkkadklaaW.PrintWords.sized_ints
end Go.Proofs.Ytbmbejgkkadklaa
namespace Go.Proofs.Ytbmbejgkkadklaa.Pure
open Go.RowKit Go.Proofs.Ytbmbejgkkadklaa.PAtomPlays Go.Proofs.YtbmbejgkkadklaaW.PrintWords Go.Proofs.YtbmbejgkkadklaaW.PrintLast
theorem awake_t : polyptychlaw17_awake.f = some true := by decide +kernel
theorem j1_false (k : Nat) (v i t a b : Int) (l1 l2 : List Int) : polyptychlaw17_AtomPlays.j1 (k + 1) v l1 l2 t i false a b = some true := by
  rw [polyptychlaw17_AtomPlays.j1, if_neg (by decide), awake_t]; rfl
theorem j3_eq (k : Nat) (v i t : Int) (l1 l2 : List Int) : polyptychlaw17_AtomPlays.j3 (k + 1) v l1 l2 t i v t = polyptychlaw17_AtomPlays.l0 k v l1 l2 t (wrap64 (i + 1)) v t := by
  rw [polyptychlaw17_AtomPlays.j3]
  simp [atom_Cell_Load.f, atom_Cell_Times.f]
theorem loop (l1 l2 : List Int) (d : Nat) : ∀ (k : Nat) (v i t : Int), 0 ≤ i → 60 - i ≤ d → 4 * d + 2 ≤ k → polyptychlaw17_AtomPlays.l0 k v l1 l2 t i v t = some true := by
  induction d with
  | zero =>
    intro k v i t h0 hd hk
    obtain ⟨k, rfl⟩ : ∃ m, k = m + 2 := ⟨k - 2, by omega⟩
    rw [polyptychlaw17_AtomPlays.l0]
    by_cases h1 : i < (l1.length : Int)
    · rw [if_pos h1]
      by_cases h2 : i < (l2.length : Int)
      · rw [if_pos h2, decide_eq_false (by omega)]; exact j1_false k _ _ _ _ _ _ _
      · rw [if_neg h2]; exact j1_false k _ _ _ _ _ _ _
    · rw [if_neg h1]; exact j1_false k _ _ _ _ _ _ _
  | succ d ih =>
    intro k v i t h0 hd hk
    obtain ⟨k, rfl⟩ : ∃ m, k = m + 4 := ⟨k - 4, by omega⟩
    rw [polyptychlaw17_AtomPlays.l0]
    by_cases h1 : i < (l1.length : Int)
    rotate_left 1
    · rw [if_neg h1]; exact j1_false (k + 2) _ _ _ _ _ _ _
    rw [if_pos h1]
    by_cases h2 : i < (l2.length : Int)
    rotate_left 1
    · rw [if_neg h2]; exact j1_false (k + 2) _ _ _ _ _ _ _
    rw [if_pos h2]
    by_cases h3 : i < 60
    rotate_left 1
    · rw [decide_eq_false h3]; exact j1_false (k + 2) _ _ _ _ _ _ _
    rw [decide_eq_true h3]
    have hw : wrap64 (i + 1) = i + 1 := by unfold wrap64; omega
    have go : ∀ (m : Nat) (v t : Int), k ≤ m → polyptychlaw17_AtomPlays.j3 (m + 1) v l1 l2 t i v t = some true := by
      intro m v t hm
      rw [j3_eq, hw]
      exact ih m v (i + 1) t (by omega) (by omega) (by omega)
    have swap_ : ∀ was : Int, polyptychlaw17_AtomPlays.j2 (k + 2) v l1 l2 t i was v t = some true := by
      intro was
      rw [polyptychlaw17_AtomPlays.j2, if_pos h0, if_pos h2]
      unfold atom_Cell_Swap.f
      by_cases e : v = was
      · subst e
        simp only [if_true, atom_Cell_Store.f, Option.bind_some]
        rw [if_neg (by simp)]
        exact go k _ _ (Nat.le_refl _)
      · rw [if_neg e]
        simp only [Option.bind_some]
        have e' : ¬ was = v := fun h => e h.symm
        rw [if_neg (by simp [e']), if_neg (by decide)]
        exact go k _ _ (Nat.le_refl _)
    rw [polyptychlaw17_AtomPlays.j1, if_pos rfl, if_pos h0, if_pos h1]
    split
    · simp only [atom_Cell_Store.f, Option.bind_some]
      exact go (k + 1) _ _ (by omega)
    · split
      · split
        · exact swap_ _
        · exact swap_ _
      · split
        · simp only [atom_Cell_Add.f, atom_Cell_Store.f, Option.bind_some, if_true]
          exact go (k + 1) _ _ (by omega)
        · exact go (k + 1) _ _ (by omega)
theorem AtomPlays : polyptychlaw17_AtomPlays.Pure := by
  intro a l1 l2 _ _ _ _ _ _ _
  refine ⟨400, ?_⟩
  unfold polyptychlaw17_AtomPlays.f atom_New.f
  simp only [Option.bind_some]
  exact loop l1 l2 60 400 a 0 0 (by omega) (by omega) (by omega)

end Go.Proofs.Ytbmbejgkkadklaa.Pure
