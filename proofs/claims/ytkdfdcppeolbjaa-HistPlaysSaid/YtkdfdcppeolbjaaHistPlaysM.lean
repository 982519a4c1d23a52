/- HistPlays, the state: a history, and the law's own rows beside it. -/
import Derived.Test.YtkdfdcppeolbjaaHistAwake
import Derived.Test.YtkdfdcppeolbjaaHistBef
namespace Go.Proofs.Ytkdfdcppeolbjaa.HistPlaysM
open Go Go.RowKit Go.Maps Go.Proofs.YtkdfdcppeolbjaaKit Go.Proofs.Ytkdfdcppeolbjaa.Mem Go.Proofs.Ytkdfdcppeolbjaa.HistBase Go.Proofs.Ytkdfdcppeolbjaa.HistStill Go.Proofs.Ytkdfdcppeolbjaa.HistOps Go.Proofs.Ytkdfdcppeolbjaa.HistRead Go.Proofs.Ytkdfdcppeolbjaa.HistFirst Go.Proofs.Ytkdfdcppeolbjaa.HistStamp Go.Proofs.Ytkdfdcppeolbjaa.HistAwake
set_option linter.unusedVariables false
set_option linter.unusedSimpArgs false
/-- Both rows of the law's own. -/
def Xs (le lo : Option Nat) (k : Nat) : Prop := some k = le ∨ some k = lo
structure Pl (w W : World) (g : Nat) (le : Option Nat) (ce : Nat) (lo : Option Nat) (co : Nat) (evs : List Ev) (od : List (Int × Int)) : Prop where
  hs : Hs w W g evs od (Xs le lo)
  ev : Own W w.heap.size 49 12 le evs.length ce (flatE evs)
  ord : Own W w.heap.size 28 2 lo od.length co (flatS od)
  nd : ∀ (j : Nat) s, od[j]? = some s → place od s = some j
/-- The history has gone on; the rows are as they were. -/
structure Ph (w W : World) (g : Nat) (le : Option Nat) (ce : Nat) (lo : Option Nat) (co : Nat) (evs evs' : List Ev) (od od' : List (Int × Int)) : Prop where
  hs : Hs w W g evs' od' (Xs le lo)
  ev : Own W w.heap.size 49 12 le evs.length ce (flatE evs)
  ord : Own W w.heap.size 28 2 lo od.length co (flatS od)
section
variable {w W W' : World} {g : Nat} {le : Option Nat} {ce : Nat} {lo : Option Nat} {co : Nat} {evs evs' : List Ev} {od od' : List (Int × Int)}
theorem Pl.then_ (h : Pl w W g le ce lo co evs od) (hb : Below W.heap.size W W') : Pl w W' g le ce lo co evs od := ⟨h.hs.then_ hb, h.ev.below hb, h.ord.below hb, h.nd⟩
theorem Pl.step (h : Pl w W g le ce lo co evs od) (hs : Hs w W' g evs' od' (Xs le lo)) (hk : Keeps (Xs le lo) W W') : Ph w W' g le ce lo co evs evs' od od' :=
  ⟨hs, h.ev.keep fun b e _ => hk b (.inl e.symm), h.ord.keep fun b e _ => hk b (.inr e.symm)⟩
theorem Pl.ne (h : Pl w W g le ce lo co evs od) : ∀ b, le = some b → lo ≠ some b := fun b e e2 => by
  have h1 := h.ev
  have h2 := h.ord
  rw [e] at h1
  rw [e2] at h2
  have := own_apart h1 h2
  revert this
  decide
/-- An event is written down by the law, too. -/
theorem Ph.push_ev {W0 w1 : World} {e : Ev} (h : Ph w W g le ce lo co evs (evs ++ [e]) od od) (hne : ∀ b, le = some b → lo ≠ some b) (hnd : ∀ (j : Nat) s, od[j]? = some s → place od s = some j) (h0 : Below W.heap.size W W0) {g' cap' n : Nat} (hg : W0.grownBy w1 le)
    (hown : w1.ownsRow w.heap.size 49 12 (.slice (some ⟨g', 0, none⟩) (n + 1) cap') (n + 1) (flatE evs ++ evC e)) (hn : evs.length = n) (hat : le = some g' ∨ W0.heap.size ≤ g') (hlt : g' < w1.heap.size) :
    Pl w w1 g (some g') cap' lo co (evs ++ [e]) od := by
  subst hn
  refine ⟨(h.hs.then_ h0).turn hg (fun b e => .inl e.symm) (fun k hk => ?_), ⟨?_⟩, (h.ord.below h0).grown hg (fun b e e2 => hne b e2.symm e), hnd⟩
  · rcases hk with e | e
    · cases e
      rcases hat with h | h
      · exact .inl (.inl h.symm)
      · exact .inr ⟨h, hlt⟩
    · exact .inl (.inr e)
  · rw [flatE_append, flatE_one, List.length_append]
    exact hown
/-- An op's place is written down by the law, too. -/
theorem Pl.push_od {W0 w1 : World} {s : Int × Int} (h : Pl w W g le ce lo co evs od) (hp : place od s = none) (h0 : Below W.heap.size W W0) {g' cap' n : Nat} (hg : W0.grownBy w1 lo)
    (hown : w1.ownsRow w.heap.size 28 2 (.slice (some ⟨g', 0, none⟩) (n + 1) cap') (n + 1) (flatS od ++ spC s)) (hn : od.length = n) (hat : lo = some g' ∨ W0.heap.size ≤ g') (hlt : g' < w1.heap.size) :
    Ph w w1 g le ce (some g') cap' evs evs (od ++ [s]) od := by
  subst hn
  refine ⟨(h.hs.then_ h0).turn hg (fun b e => .inr e.symm) (fun k hk => ?_), (h.ev.below h0).grown hg (fun b e e2 => h.ne b e e2.symm), ⟨?_⟩⟩
  · rcases hk with e | e
    · exact .inl (.inl e)
    · cases e
      rcases hat with h | h
      · exact .inl (.inr h.symm)
      · exact .inr ⟨h, hlt⟩
  · rw [flatS_append, flatS_one, List.length_append]
    exact hown
theorem Ph.fin {W2 : World} (h : Ph w W g le ce lo co evs evs' od od') (hs : Hs w W2 g evs od (Xs le lo)) (hk : Keeps (Xs le lo) W W2) (hnd : ∀ (j : Nat) s, od[j]? = some s → place od s = some j) : Pl w W2 g le ce lo co evs od :=
  ⟨hs, h.ev.keep fun b e _ => hk b (.inl e.symm), h.ord.keep fun b e _ => hk b (.inr e.symm), hnd⟩
end
theorem nd_push {od : List (Int × Int)} {s : Int × Int} (h : ∀ (j : Nat) s, od[j]? = some s → place od s = some j) (hn : place od s = none) : ∀ (j : Nat) s', (od ++ [s])[j]? = some s' → place (od ++ [s]) s' = some j := fun j s' hs => by
  rcases Nat.lt_or_ge j od.length with hj | hj
  · rw [List.getElem?_append_left hj] at hs
    exact place_append_old (h j s' hs)
  · rw [List.getElem?_append_right hj] at hs
    have hj0 : j - od.length = 0 := by
      have := (List.getElem?_eq_some_iff.1 hs).1
      simp at this
      omega
    rw [hj0] at hs
    simp at hs
    subst hs
    rw [place_append_self hn, show j = od.length by omega]
/-- Where the law has found an op so far; below 0: nowhere. -/
def foundAt (od : List (Int × Int)) (s : Int × Int) (j : Nat) : Int := match place od s with
  | some k => if k < j then (k : Int) else -1
  | none => -1
theorem seen_zero (od : List (Int × Int)) (s : Int × Int) : foundAt od s 0 = -1 := by
  unfold foundAt
  cases place od s <;> simp
theorem seen_hit {od : List (Int × Int)} {s : Int × Int} {j : Nat} (h : place od s = some j) : foundAt od s (j + 1) = (j : Int) := by
  unfold foundAt
  rw [h]
  simp
theorem seen_miss {od : List (Int × Int)} {s s' : Int × Int} {j : Nat} (hj : od[j]? = some s') (hnd : ∀ (j : Nat) s, od[j]? = some s → place od s = some j) (hne : s' ≠ s) : foundAt od s (j + 1) = foundAt od s j := by
  unfold foundAt
  cases hp : place od s with
  | none => rfl
  | some k =>
    have hk : k ≠ j := fun e => by
      subst e
      unfold place at hp
      rw [List.findIdx?_eq_some_iff_getElem] at hp
      obtain ⟨hl, h1, _⟩ := hp
      have h2 := (List.getElem?_eq_some_iff.1 hj).2
      rw [h2] at h1
      exact hne (by simpa using h1)
    by_cases hc : k < j
    · simp [hc, Nat.lt_succ_of_lt hc]
    · simp [hc, show ¬ k < j + 1 by omega]
theorem place_lt {od : List (Int × Int)} {s : Int × Int} {k : Nat} (h : place od s = some k) : k < od.length := by
  unfold place at h
  rw [List.findIdx?_eq_some_iff_getElem] at h
  exact h.1
theorem seen_end (od : List (Int × Int)) (s : Int × Int) : foundAt od s od.length = match place od s with | some k => (k : Int) | none => -1 := by
  unfold foundAt
  cases hp : place od s with
  | none => rfl
  | some k => simp [place_lt hp]
theorem sl_oa (lb : Option Nat) (n cap : Nat) : ∃ oa : Option Addr, oa = lb.map (fun b => ⟨b, 0, none⟩) ∧ sl lb n cap = .slice oa n cap := ⟨_, rfl, rfl⟩
end Go.Proofs.Ytkdfdcppeolbjaa.HistPlaysM


