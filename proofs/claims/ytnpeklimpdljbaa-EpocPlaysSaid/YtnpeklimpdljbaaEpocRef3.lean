/- The reference's epochs: what New does: a contract, for every number of threads. -/
import Derived.Test.YtnpeklimpdljbaaEpocRef2
namespace Go.Proofs.Ytnpeklimpdljbaa.EpocRef3
open Go.RowKit Go.Proofs.YtnpeklimpdljbaaKit Go.Proofs.YtnpeklimpdljbaaW.PrintWords Go.Proofs.YtnpeklimpdljbaaW.PrintLast Go.Proofs.Ytnpeklimpdljbaa.EpocBase Go.Proofs.Ytnpeklimpdljbaa.EpocOps Go.Proofs.Ytnpeklimpdljbaa.EpocRows Go.Proofs.Ytnpeklimpdljbaa.EpocAdv Go.Proofs.Ytnpeklimpdljbaa.EpocUse Go.Proofs.Ytnpeklimpdljbaa.EpocRef Go.Proofs.Ytnpeklimpdljbaa.EpocRef2
attribute [local go_sem] cell_alloc_some cell_alloc2_some cell_alloc3_some cell_alloc4_some
attribute [local go_sem ↓] Go.wp_at_zero Go.wp_at_succ
set_option linter.unusedVariables false
set_option linter.unusedSimpArgs false
/-- The reference's epochs while they are made. -/
theorem made_pin {w W W0 w1 : World} {h : Nat} {q : Option Nat} {qc i : Nat} (f : Rf w W h q none none qc 0 0 0 (List.replicate i (-1)) [] []) (h0 : Below W.heap.size W W0) {g cap : Nat}
    (hg : W0.grownBy w1 q) (hown : w1.ownsRow (h + 1) 3 1 (.slice (some ⟨g, 0, none⟩) (i + 1) cap) (i + 1) (intsOf (List.replicate i (-1)) ++ [.int .i64 (-1)])) :
    Rf w (w1.setCell ⟨h, 1, none⟩ (.slice (some ⟨g, 0, none⟩) (i + 1) cap)) h (some g) none none cap 0 0 0 (List.replicate (i + 1) (-1)) [] [] := by
  have hs := bs_lt f.obj
  have hq := own_ge f.pins
  have hs0 := h0.size
  have hg1 : w1.heap[h]? = _ := (hg.block h (by omega) (fun e => by have := hq h e.symm; omega)).trans ((h0.block h hs).trans f.obj)
  have hrep : List.replicate (i + 1) (-1 : Int) = List.replicate i (-1) ++ [-1] := List.replicate_succ'
  have hO : Own w1 (h + 1) 3 1 (some g) (List.replicate (i + 1) (-1 : Int)).length cap (intsOf (List.replicate (i + 1) (-1))) := by
    rw [hrep]
    exact own_snoc hown List.length_replicate
  have hB : Below w.heap.size w w1 := below_grown (f.below.trans (h0.mono f.below.size)) (by have := f.below.size; omega) hg (fun b hb => by have := hq b hb; have := f.ge; omega)
  refine ⟨?_, own_far hO (fun b e => by have := own_ge hO b e; dsimp only; omega) _, Own.nil _ _ _ _, Own.nil _ _ _ _, ?_, ?_, ?_, f.ge, be_set hB f.ge⟩
  · have := bs_same (i := 1) (v := .slice (some ⟨g, 0, none⟩) (i + 1) cap) hg1
    rw [List.length_replicate]
    simpa [sl] using this
  · intro b _ e; cases e
  · intro b _ e; cases e
  · intro b e; cases e
set_option maxHeartbeats 8000000 in
set_option maxRecDepth 100000 in
theorem rnew (t : Int) (n : Nat) (w : World) (hn : n ≤ 50) (ht : t = (n : Int) ∨ t < 0 ∧ n = 0) :
    Calls Try.prog 16 #[.int .i64 t] w fun e W' => ∃ h q qc, e = .returned (.pointer (some ⟨h, 0, none⟩)) ∧ Rf w W' h q none none qc 0 0 0 (List.replicate n (-1)) [] [] := by
  obtain ⟨i0, hi, hz0, hz1, hz2⟩ := info_parts intInfo
  have HT := hide ht
  clear ht
  go_enter Try.func16, Try.ntmps16
  go_wp2
  go_loopw [4] (fun v4 wr => ∃ i : Nat, ∃ q qc, i ≤ n ∧ v4 = .int .i64 (i : Int) ∧ Rf w wr w.heap.size q none none qc 0 0 0 (List.replicate i (-1)) [] []) (fun v4 _ => n - (intOf v4).toNat)
  case atStart =>
    refine ⟨0, none, 0, Nat.zero_le _, rfl, bs_new rfl, Own.nil _ _ _ _, Own.nil _ _ _ _, Own.nil _ _ _ _, ?_, ?_, ?_, Nat.le_refl _, be_alloc (be_refl _) (Nat.le_refl _)⟩ <;> (intro b e; cases e)
  case round =>
    obtain ⟨i, q, qc, hi9, rfl, hf⟩ := hrel
    have HF := hide hf
    by_cases hlt : i < n
    · have p1 : ((i : Int) < t) = True := eq_true (by have := HT.out; omega)
      have p2 : ((i : Int) < 100) = True := eq_true (by omega)
      obtain ⟨_, c1, _, _⟩ := hf.c
      have hw : wrap64 ((i : Int) + 1) = (i : Int) + 1 := by unfold wrap64; omega
      have fz := bs_frozen hf.obj 1
      have hown := hf.pins.owns
      obtain ⟨S, hS⟩ : ∃ S, S = w.heap.size := ⟨_, rfl⟩
      have hSl : S < wr.heap.size := by rw [hS]; exact bs_lt hf.obj
      rw [← hS] at c1 fz hown ⊢
      have HS := hide hS
      rw [List.length_replicate] at c1 hown
      obtain ⟨v, hv⟩ : ∃ v, v = sl q i qc := ⟨_, rfl⟩
      have hvb : v.ownBlock = q := by rw [hv]; exact sl_block _ _ _
      rw [← hv] at c1 hown
      have hne : some S ≠ v.ownBlock := fun e => by
        rw [hvb] at e
        have := own_ge hf.pins S e.symm
        omega
      have HVB := hide hvb
      have HA : Hid (∀ o, (wr.alloc o).ownsRow (S + 1) 3 1 v i (intsOf (List.replicate i (-1)))) := fun o => World.ownsRow.alloc hown o
      have HC : Hid (∀ o, (wr.alloc o).cell? ⟨S, 1, none⟩ = some v ∧ (wr.alloc o).frozen? ⟨S, 1, none⟩ = false) := fun o => ⟨by rw [World.cell?_alloc_lt _ _ _ hSl]; exact c1, by rw [HS.out]; exact bs_frozen (bs_alloc hf.obj) 1⟩
      clear hf hv hvb hS hown
      go_wp2_with (at_builtin; refine wpList_append_lies _ rfl (.tmp 20) (.tmp 21) 22 rfl (S + 1) 3 i0 _ 1 8 Try.underlying22 hi hz0 hz1 hz2 rfl (by omega) v i _ rfl (HA.out _) ⟨wr.heap.size, 0, none⟩ 1 1 [.int .i64 (-1)] rfl rfl (World.news_of_block (cs := #[.int .i64 (-1)]) (t := 3) (fr := (0, 0)) (heap_alloc_new wr _)) (by simp [Value.oneCell']) (by omega) (by unfold maxLen; omega) (by omega) (by simp; omega) (wr.heap.size + 1) (by simp) ?_; intro gg cap1 w1 hown1 hgrow hat hlt1; have fz1 : w1.frozen? ⟨S, 1, none⟩ = false := (hgrow.frozen_far _ (by simp; omega) hne).trans (HC.out _).2; have cz1 : w1.cell? ⟨S, 1, none⟩ = some v := (hgrow.cell_far _ (by simp; omega) hne).trans (HC.out _).1)
      rw [HVB.out] at hgrow
      refine ⟨⟨i + 1, some gg, cap1, by omega, by simp, ?_⟩, by simp only [intOf]; omega⟩
      have hs := HS.out
      subst hs
      exact made_pin HF.out (be_alloc (be_refl _) (Nat.le_refl _)) hgrow hown1
    · have hin : i = n := by omega
      subst hin
      have p1 : ((i : Int) < t) = False := eq_false (by have := HT.out; omega)
      clear hf
      go_wp2
      go_ret
      exact ⟨_, q, qc, rfl, HF.out⟩
end Go.Proofs.Ytnpeklimpdljbaa.EpocRef3


