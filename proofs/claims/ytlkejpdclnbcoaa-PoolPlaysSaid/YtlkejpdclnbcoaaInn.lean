/- Rows of rows of cells: words for them: plain theorems about the model, without a condition of their own. -/
import Derived.Test.YtlkejpdclnbcoaaRowsBase
namespace Go.Proofs.Ytlkejpdclnbcoaa.Inn
open Go Go.RowKit Go.Proofs.YtlkejpdclnbcoaaKit Go.Proofs.Ytlkejpdclnbcoaa.Mem Go.Proofs.Ytlkejpdclnbcoaa.RowsBase
set_option linter.unusedVariables false
set_option linter.unusedSimpArgs false
abbrev R := List C
/-- Slices of rows of cells, each of a block of its own kind from lo on. -/
structure Inn (W : World) (lo : Nat) (vs : List Value) (rs : List R) : Prop where
  len : vs.length = rs.length
  at_ : ∀ (i : Nat) (r : R), rs[i]? = some r → ∃ (lb : Option Nat) (k : Nat), vs[i]? = some (sl lb r.length k) ∧ r.length ≤ k ∧ Own W lo 49 2 lb r.length k (flat r)
theorem own_le {W : World} {base : Nat} {e : TypeId} {k : Nat} {lb : Option Nat} {n cap : Nat} {xs : List Value} (h : Own W base e k lb n cap xs) : n ≤ cap := by
  obtain ⟨hl, ⟨hv, h0⟩ | ⟨g, cap', cur, hv, hg, hb, hn, hc, hs, ht⟩⟩ := h.owns
  · omega
  · cases lb with
    | none => simp [sl] at hv
    | some b => simp [sl] at hv; omega
section
variable {W W' : World} {lo lo' : Nat} {vs ws : List Value} {rs ss : List R}
theorem Inn.nil (W : World) (lo : Nat) : Inn W lo [] [] := ⟨rfl, fun i r h => by simp at h⟩
theorem Inn.keep (h : Inn W lo vs rs) (hk : ∀ b, lo ≤ b → b < W.heap.size → (∃ cur, W.heap[b]? = some (.cells cur 49 (0, 0))) → W'.heap[b]? = W.heap[b]?) : Inn W' lo vs rs :=
  ⟨h.len, fun i r hr => by
    obtain ⟨lb, k, h1, h2, h3⟩ := h.at_ i r hr
    exact ⟨lb, k, h1, h2, h3.keep fun b e hlt => by subst e; exact hk b (own_base h3).1 hlt (own_type h3)⟩⟩
theorem Inn.below (h : Inn W lo vs rs) (hb : Below W.heap.size W W') : Inn W' lo vs rs := h.keep fun b _ hlt _ => hb.block b hlt
theorem Inn.lower (h : Inn W lo vs rs) (hl : lo' ≤ lo) : Inn W lo' vs rs :=
  ⟨h.len, fun i r hr => by
    obtain ⟨lb, k, h1, h2, h3⟩ := h.at_ i r hr
    exact ⟨lb, k, h1, h2, h3.lower hl⟩⟩
theorem Inn.append (h : Inn W lo vs rs) (h' : Inn W lo ws ss) : Inn W lo (vs ++ ws) (rs ++ ss) := by
  refine ⟨by rw [List.length_append, List.length_append, h.len, h'.len], fun i r hr => ?_⟩
  by_cases hi : i < rs.length
  · rw [List.getElem?_append_left hi] at hr
    obtain ⟨lb, k, h1, h2⟩ := h.at_ i r hr
    exact ⟨lb, k, by rw [List.getElem?_append_left (by rw [h.len]; exact hi)]; exact h1, h2⟩
  · rw [List.getElem?_append_right (by omega)] at hr
    obtain ⟨lb, k, h1, h2⟩ := h'.at_ _ r hr
    exact ⟨lb, k, by rw [List.getElem?_append_right (by rw [h.len]; omega), h.len]; exact h1, h2⟩
theorem Inn.take (h : Inn W lo vs rs) (n : Nat) : Inn W lo (vs.take n) (rs.take n) := by
  refine ⟨by rw [List.length_take, List.length_take, h.len], fun i r hr => ?_⟩
  rw [List.getElem?_take] at hr
  split at hr
  · rename_i hi
    obtain ⟨lb, k, h1, h2⟩ := h.at_ i r hr
    exact ⟨lb, k, by rw [List.getElem?_take, if_pos hi]; exact h1, h2⟩
  · cases hr
theorem Inn.drop (h : Inn W lo vs rs) (n : Nat) : Inn W lo (vs.drop n) (rs.drop n) := by
  refine ⟨by rw [List.length_drop, List.length_drop, h.len], fun i r hr => ?_⟩
  rw [List.getElem?_drop] at hr
  obtain ⟨lb, k, h1, h2⟩ := h.at_ _ r hr
  exact ⟨lb, k, by rw [List.getElem?_drop]; exact h1, h2⟩
theorem Inn.one {lb : Option Nat} {k : Nat} {r : R} (h : Own W lo 49 2 lb r.length k (flat r)) : Inn W lo [sl lb r.length k] [r] :=
  ⟨rfl, fun i r' hr => by
    have hi := (List.getElem?_eq_some_iff.1 hr).1
    obtain rfl : i = 0 := by simpa using hi
    simp at hr; subst hr
    exact ⟨lb, k, rfl, own_le h, h⟩⟩
/-- A store, or an append, into a block of another kind. -/
theorem Inn.grown {row : Option Nat} (h : Inn W lo vs rs) (hg : W.grownBy W' row) (hne : ∀ b, row = some b → ∀ cur, W.heap[b]? ≠ some (.cells cur 49 (0, 0))) : Inn W' lo vs rs :=
  h.keep fun b _ hlt ⟨cur, hc⟩ => hg.block b hlt (fun e => hne b e.symm cur hc)
theorem Inn.set {i : Nat} {lb : Option Nat} {k : Nat} {r : R} (h : Inn W lo vs rs) (ho : Own W lo 49 2 lb r.length k (flat r)) : Inn W lo (vs.set i (sl lb r.length k)) (rs.set i r) := by
  refine ⟨by rw [List.length_set, List.length_set, h.len], fun j r' hr => ?_⟩
  rw [List.getElem?_set] at hr ⊢
  split at hr
  · rename_i e; subst e
    split at hr
    · cases hr
      exact ⟨lb, k, by rw [if_pos rfl, if_pos (by rw [h.len]; assumption)], own_le ho, ho⟩
    · cases hr
  · rename_i e
    obtain ⟨lb', k', h1, h2⟩ := h.at_ j r' hr
    exact ⟨lb', k', by rw [if_neg e]; exact h1, h2⟩
theorem Inn.one_cell (h : Inn W lo vs rs) : ∀ u ∈ vs, u.oneCell' = true := fun u hu => by
  obtain ⟨i, hi⟩ := List.getElem?_of_mem hu
  have hl := (List.getElem?_eq_some_iff.1 hi).1
  obtain ⟨lb, k, h1, _⟩ := h.at_ i (rs[i]'(by rw [← h.len]; exact hl)) (List.getElem?_eq_getElem (by rw [← h.len]; exact hl))
  rw [hi] at h1
  cases h1; rfl
end
theorem rowInfo : (Try.prog.info? 47).map (fun i => (i.zero, i.size, i.bytes)) = some (some (.slice none 0 0), 1, 24) := by kernel_rfl
theorem rowSize : (Try.prog.info? 47).map (·.size) = some 1 := by kernel_rfl
/-- Rows that the call owns, its outer row and the inner ones. -/
abbrev OwnR (W : World) (base : Nat) (lb : Option Nat) (n cap : Nat) (vs : List Value) : Prop := Own W base 47 1 lb n cap vs
theorem ne_cell {W : World} {base : Nat} {lb : Option Nat} {n cap : Nat} {vs : List Value} (h : OwnR W base lb n cap vs) : ∀ b, lb = some b → ∀ cur, W.heap[b]? ≠ some (.cells cur 49 (0, 0)) := fun b e cur hc => by
  subst e
  obtain ⟨c2, h2⟩ := own_type h
  rw [h2] at hc
  injection hc with e1
  injection e1 with _ e2
  revert e2; decide
theorem rd_vals {W : World} {b : Nat} {t : TypeId} {vs : List Value} (h : W.heap[b]? = some (.cells vs.toArray t (0, 0))) : Rd W 0 (some ⟨b, 0, none⟩) vs := fun j v hv => ⟨_, rfl, Nat.zero_le _, by rw [add_head, bs_cell h, List.getElem?_toArray]; exact hv⟩
/-- A slice of rows of cells. -/
def RowsAt (W : World) (lo : Nat) (v : Value) (rs : List R) : Prop := ∃ (lb : Option Nat) (cap : Nat) (vs : List Value), v = sl lb rs.length cap ∧ OwnR W lo lb rs.length cap vs ∧ Inn W lo vs rs
theorem RowsAt.nil (W : World) (lo : Nat) : RowsAt W lo (.slice none 0 0) [] := ⟨none, 0, [], rfl, Own.nil _ _ _ _, Inn.nil _ _⟩
theorem RowsAt.keep {W W' : World} {lo : Nat} {v : Value} {rs : List R} (h : RowsAt W lo v rs) (hk : ∀ b, lo ≤ b → b < W.heap.size → (∃ cur, W.heap[b]? = some (.cells cur 49 (0, 0)) ∨ W.heap[b]? = some (.cells cur 47 (0, 0))) → W'.heap[b]? = W.heap[b]?) : RowsAt W' lo v rs := by
  obtain ⟨lb, cap, vs, h1, h2, h3⟩ := h
  refine ⟨lb, cap, vs, h1, h2.keep (fun b e hlt => ?_), h3.keep (fun b hb hlt ⟨cur, hc⟩ => hk b hb hlt ⟨cur, .inl hc⟩)⟩
  subst e
  obtain ⟨cur, hc⟩ := own_type h2
  exact hk b (own_base h2).1 hlt ⟨cur, .inr hc⟩
theorem RowsAt.below {W W' : World} {lo : Nat} {v : Value} {rs : List R} (h : RowsAt W lo v rs) (hb : Below W.heap.size W W') : RowsAt W' lo v rs := h.keep fun b _ hlt _ => hb.block b hlt
theorem RowsAt.lower {W : World} {lo lo' : Nat} {v : Value} {rs : List R} (h : RowsAt W lo v rs) (hl : lo' ≤ lo) : RowsAt W lo' v rs := by
  obtain ⟨lb, cap, vs, h1, h2, h3⟩ := h
  exact ⟨lb, cap, vs, h1, h2.lower hl, h3.lower hl⟩
end Go.Proofs.Ytlkejpdclnbcoaa.Inn


