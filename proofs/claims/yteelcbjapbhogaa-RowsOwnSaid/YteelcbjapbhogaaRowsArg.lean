/- A row of cells that comes in as an argument: its cells, as a list. -/
import Derived.Deep.Slices
import Derived.Deep.Fields
import Derived.ChangeSame
import Derived.OpenShut
import Derived.Test.YteelcbjapbhogaaRowsUse
namespace Go.Proofs.Yteelcbjapbhogaa.RowsArg
open Go Go.RowKit Go.ChangeShapes Go.WideShapes Go.Deep Go.Proofs.YteelcbjapbhogaaKit Go.Proofs.Yteelcbjapbhogaa.Mem Go.Proofs.Yteelcbjapbhogaa.RowsBase Go.Proofs.Yteelcbjapbhogaa.RowsUse
set_option linter.unusedVariables false
set_option linter.unusedSimpArgs false
theorem listed {α : Type} (n : Nat) (P : Nat → α → Prop) (h : ∀ i, i < n → ∃ c, P i c) : ∃ cs : List α, cs.length = n ∧ ∀ i c, cs[i]? = some c → P i c := by
  induction n with
  | zero => exact ⟨[], rfl, fun i c h => by simp at h⟩
  | succ n ih =>
    obtain ⟨cs, h1, h2⟩ := ih fun i hi => h i (by omega)
    obtain ⟨c, hc⟩ := h n (by omega)
    refine ⟨cs ++ [c], by simp [h1], fun i d hd => ?_⟩
    by_cases hi : i < n
    · rw [List.getElem?_append_left (by omega)] at hd
      exact h2 i d hd
    · rw [List.getElem?_append_right (by omega)] at hd
      have : i - cs.length = 0 := by
        have := (List.getElem?_eq_some_iff.1 hd).1
        simp at this; omega
      rw [this] at hd
      simp at hd
      subst hd
      rw [show i = n by omega]
      exact hc
theorem rd_cells {W : World} {ad : Addr} {n : Nat} {cs : List C} (hn : cs.length = n) (h : ∀ i c, cs[i]? = some c → W.cell? (ad.add (i * 2)) = some (.int .i32 c.1) ∧ W.cell? (ad.add (i * 2 + 1)) = some (.int .i64 c.2)) : RdC W 0 (some ad) cs := fun j v hv => by
  have hl := (List.getElem?_eq_some_iff.1 hv).1
  rw [flat_len] at hl
  have hc : cs[j / 2]? = some cs[j / 2] := List.getElem?_eq_getElem (by omega)
  obtain ⟨f1, f2⟩ := flat_get _ _ _ hc
  obtain ⟨g1, g2⟩ := h _ _ hc
  refine ⟨ad, rfl, Nat.zero_le _, ?_⟩
  rcases Nat.mod_two_eq_zero_or_one j with h | h
  · rw [show j = j / 2 * 2 by omega] at hv ⊢
    rw [f1] at hv; cases hv
    exact g1
  · rw [show j = j / 2 * 2 + 1 by omega] at hv ⊢
    rw [f2] at hv; cases hv
    exact g2
section
variable {H : Type} {enc : TypeId × Value → H} {P : Program} {w : World} {base : Nat} {spare : Nat → Bool} {held : Bool}
theorem open_slice_fields {t e : TypeId} {fs : Array Field} {fuel : Nat} {cs : List Value} {x : DataW H × List MemPlace} (ht : P.underlying t = some (.slice e)) (he : P.underlying e = some (.struct fs))
    (hone : oneCellFields P fs = true) (hC : P.cellsOf e = fs.size) (h : DataW.trod enc P w base spare held fuel t cs = some x) :
    (cs = [.slice none 0 0] ∧ x = (.nil, [])) ∨
    ∃ (a : Addr) (len cap m : Nat) (D : Nat → DataW H) (Pl : Nat → List MemPlace), cs = [.slice (some a) len cap] ∧ base ≤ a.block ∧ len ≤ cap ∧ cap ≤ maxLen ∧ m = (if spare a.block then cap else len) ∧
      x = (.slice ((List.range len).map D) ((List.range (m - len)).map fun j => D (len + j)), MemPlace.row a (m * fs.size) ++ (List.range m).flatMap Pl) ∧
      ∀ i, i < m → ∃ (ys : List (DataW H × List MemPlace)) (n : Nat), D i = .agg (ys.map (·.1)) ∧ Pl i = ys.flatMap (·.2) ∧ ys.length = fs.size ∧
        ∀ (j : Nat) (f : Field), fs[j]? = some f → ∃ (v : Value) (y : DataW H × List MemPlace), w.cell? (a.add (i * fs.size + j)) = some v ∧ ys[j]? = some y ∧ DataW.trod enc P w base spare held n f.type [v] = some y := by
  rcases open_slice ht h with h0 | ⟨a, len, cap, m, n, D, Pl, hcs, hb, hl, hm, hmm, hx, hi⟩
  · exact .inl h0
  · refine .inr ⟨a, len, cap, m, D, Pl, hcs, hb, hl, hm, hmm, by rw [hC] at hx; exact hx, fun i him => ?_⟩
    obtain ⟨cs', hc, ht'⟩ := hi i him
    rw [hC] at hc
    obtain ⟨ys, n', hn', hy, hlen, hyl, hf⟩ := DataW.trod_struct he ht'
    obtain ⟨_, hcl, hat⟩ := World.cells?_some hc
    simp only [Prod.mk.injEq] at hy
    refine ⟨ys, n', hy.1, hy.2, hyl, fun j f hj => ?_⟩
    obtain ⟨ho, hk⟩ := hone_of hone j f hj
    have hjl : j < fs.size := (Array.getElem?_eq_some_iff.1 hj).1
    have hcell := hat j hjl
    have hv : cs'[j]? = some (cs'[j]'(by omega)) := List.getElem?_eq_getElem (by omega)
    have h1 := hf j f hj
    rw [ho, hk] at h1
    have hone' : (cs'.drop j).take 1 = [cs'[j]'(by omega)] := by
      rw [List.drop_eq_getElem_cons (by omega)]
      rfl
    rw [hone'] at h1
    have hys : ys[j]? = some (ys[j]'(by omega)) := List.getElem?_eq_getElem (by omega)
    refine ⟨_, _, ?_, hys, h1.trans hys⟩
    rw [← Go.Deep.add_add, hcell, hv]
end
theorem flds2 : ∃ f0 f1 : Field, (Try.prog.fieldsOf 23) = #[f0, f1] ∧ f0.type = 21 ∧ f1.type = 3 := by
  have hl := flds
  obtain ⟨f0, f1, h⟩ : ∃ f0 f1, (Try.prog.fieldsOf 23).toList = [f0, f1] := by
    rcases h : (Try.prog.fieldsOf 23).toList with _ | ⟨f0, _ | ⟨f1, _ | ⟨f2, l⟩⟩⟩
    · rw [h] at hl; simp at hl
    · rw [h] at hl; simp at hl
    · exact ⟨f0, f1, rfl⟩
    · rw [h] at hl; simp at hl
  rw [h] at hl
  simp at hl
  exact ⟨f0, f1, by rw [← Array.toArray_toList (xs := Try.prog.fieldsOf 23), h], hl.1.2.1, hl.2.2.1⟩
section
variable {H : Type} {enc : TypeId × Value → H} {w : World} {base : Nat} {spare : Nat → Bool} {held : Bool}
/-- A slice of cells that came in. -/
theorem cells_arg {fuel : Nat} {a : Option Addr} {len cap : Nat} {x : DataW H × List MemPlace} (h : DataW.trod enc Try.prog w base spare held fuel 24 [.slice a len cap] = some x) :
    ∃ cs : List C, cs.length = len ∧ len ≤ cap ∧ cap ≤ maxLen ∧ RdC w 0 a cs := by
  have hu : Try.prog.underlying 23 = some (.struct (Try.prog.fieldsOf 23)) := by kernel_rfl
  have hone : oneCellFields Try.prog (Try.prog.fieldsOf 23) = true := by kernel_rfl
  obtain ⟨f0, f1, hfs, t0, t1⟩ := flds2
  rw [hfs] at hu hone
  rcases open_slice_fields Try.underlying24 hu hone (by kernel_rfl) h with ⟨hcs, _⟩ | ⟨a', len', cap', m, D, Pl, hcs, hb, hl, hm, hmm, hx, hi⟩
  · simp at hcs
    obtain ⟨rfl, rfl, rfl⟩ := hcs
    exact ⟨[], rfl, Nat.le_refl _, Nat.zero_le _, Rd.nil _ _ _⟩
  · simp at hcs
    obtain ⟨rfl, rfl, rfl⟩ := hcs
    have hle : len ≤ m := by rw [hmm]; split <;> omega
    obtain ⟨cs, h1, h2⟩ := listed len (fun i (c : C) => w.cell? (a'.add (i * 2)) = some (.int .i32 c.1) ∧ w.cell? (a'.add (i * 2 + 1)) = some (.int .i64 c.2)) fun i hin => by
      obtain ⟨ys, n, _, _, _, hf⟩ := hi i (by omega)
      obtain ⟨v0, y0, c0, _, r0⟩ := hf 0 f0 rfl
      obtain ⟨v1, y1, c1, _, r1⟩ := hf 1 f1 rfl
      rw [t0] at r0
      rw [t1] at r1
      obtain ⟨z0, e0, _, _⟩ := DataW.trod_int Try.underlying21 r0
      obtain ⟨z1, e1, _, _⟩ := DataW.trod_int Try.underlying3 r1
      simp at e0 e1
      subst e0 e1
      exact ⟨(z0, z1), by simpa using c0, by simpa using c1⟩
    exact ⟨cs, h1, hl, hm, rd_cells h1 h2⟩
end
end Go.Proofs.Yteelcbjapbhogaa.RowsArg

