/- Pools: what Give does: a contract, for every pool, without a condition of its own. -/
import Derived.Test.YtlkejpdclnbcoaaPoolBase
namespace Go.Proofs.Ytlkejpdclnbcoaa.PoolGive
open Go.RowKit Go.Proofs.YtlkejpdclnbcoaaKit Go.Proofs.YtlkejpdclnbcoaaW.PrintWords Go.Proofs.YtlkejpdclnbcoaaW.PrintLast Go.Proofs.Ytlkejpdclnbcoaa.PoolBase
attribute [local go_sem] cell_alloc_some cell_alloc2_some cell_alloc3_some cell_alloc4_some
set_option linter.unusedVariables false
set_option linter.unusedSimpArgs false
set_option maxHeartbeats 8000000 in
set_option maxRecDepth 100000 in
theorem give_yes (i : Int) (b : Int × Int × Bool) (w W : World) (g pb : Nat) (bs : List (Int × Int × Bool)) (h : Pl w W g pb bs) (h0 : 0 ≤ i) (hb : bs[i.toNat]? = some b) (q : b.2.2 = true) :
    Calls Try.prog 13 #[.pointer (some ⟨g, 0, none⟩), .int .i64 i] W fun e W' => e = .returned (.bool true) ∧ Pl w W' g pb (bs.set i.toNat (0, b.2.1, false)) ∧ Fr pb W W' := by
  have H := has_calls i w W g pb bs h
  have HP := hide h
  have hl : i.toNat < bs.length := (List.getElem?_eq_some_iff.1 hb).1
  have hd : (decide (0 ≤ i) && decide (i < bs.length)) = true := by simp; omega
  rw [hd] at H
  have H := hide H
  have c0 := h.cell0
  obtain ⟨x0, x1, x2, x3, x4, x5, x6, x7⟩ := h.cells i.toNat b hb
  have fz := fun j => bs_frozen h.rows j
  have h1 : i < (bs.length : Int) := by omega
  clear hd h
  rw [q] at x7
  have hb' := hide hb
  clear hb
  go_enter Try.func13, Try.ntmps13
  go_upto_region 3 with (go_at_call 22; with_reducible refine H.out.mono ?_; rintro e v ⟨rfl, hv⟩; subst v)
  go_still_tail 15, (by kernel_rfl)
  change wpList _ _ _ _ _ W.drew
  obtain ⟨W2, hW2⟩ : ∃ W2, W2 = W.drew := ⟨_, rfl⟩
  rw [← hW2]
  have hP2 : Pl w W2 g pb bs := hW2 ▸ HP.out.drew
  have hs := hide (hP2.stored i.toNat 0 b.2.1 false hl)
  refine wpList_store_mid rfl 78 (.tmp 34) (.tmp 33) rfl pb (i.toNat * 8) #[.int .i64 0, .int .i64 0, .slice none 0 0, .int .i64 0, .int .i64 0, .bool false, .int .i64 b.2.1, .bool false] rfl rfl (hP2.there i.toNat hl) (by kernel_rfl) (by simp [Value.oneCell']) ?_
  have hfr : Fr pb W (W2.setCells pb (i.toNat * 8) [.int .i64 0, .int .i64 0, .slice none 0 0, .int .i64 0, .int .i64 0, .bool false, .int .i64 b.2.1, .bool false]) := fun k hk hne => (far_setCells pb _ _ _ k hne).trans (by rw [hW2]; rfl)
  have HFR := hide hfr
  clear hfr
  generalize W2.setCells _ _ _ = W3 at *
  clear hP2 hW2 c0 x0 x1 x2 x3 x4 x5 x6 x7 fz
  go_wp2
  go_ret
  exact ⟨rfl, hs.out, HFR.out⟩
theorem give_no (i : Int) (w W : World) (g pb : Nat) (bs : List (Int × Int × Bool)) (h : Pl w W g pb bs) (hc : (i < 0 ∨ (bs.length : Int) ≤ i) ∨ ∃ b, 0 ≤ i ∧ bs[i.toNat]? = some b ∧ b.2.2 = false) :
    Calls Try.prog 13 #[.pointer (some ⟨g, 0, none⟩), .int .i64 i] W fun e W' => e = .returned (.bool false) ∧ W' = W := by
  have H := has_calls i w W g pb bs h
  rcases hc with h1 | ⟨b, h0, hb, q⟩
  · have hd : (decide (0 ≤ i) && decide (i < bs.length)) = false := by simp; omega
    rw [hd] at H
    have H := hide H
    clear hd h
    go_enter Try.func13, Try.ntmps13
    go_wp2_with (go_at_call 22; with_reducible refine H.out.mono ?_; rintro e v ⟨rfl, hv⟩; subst v)
    go_ret
    exact ⟨rfl, rfl⟩
  · have hl : i.toNat < bs.length := (List.getElem?_eq_some_iff.1 hb).1
    have hd : (decide (0 ≤ i) && decide (i < bs.length)) = true := by simp; omega
    rw [hd] at H
    have H := hide H
    have c0 := h.cell0
    obtain ⟨x0, x1, x2, x3, x4, x5, x6, x7⟩ := h.cells i.toNat b hb
    have h1 : i < (bs.length : Int) := by omega
    clear hd h hb
    rw [q] at x7
    go_enter Try.func13, Try.ntmps13
    go_wp2_with (go_at_call 22; with_reducible refine H.out.mono ?_; rintro e v ⟨rfl, hv⟩; subst v)
    go_ret
    exact ⟨rfl, rfl⟩
end Go.Proofs.Ytlkejpdclnbcoaa.PoolGive

