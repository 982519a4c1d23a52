/- A frame without rows, and a reply that holds it, made their own: contracts. -/
import Derived.Test.YtkdfdcppeolbjaaHistBase
namespace Go.Proofs.Ytkdfdcppeolbjaa.HistStill
open Go Go.RowKit Go.Maps Go.Proofs.YtkdfdcppeolbjaaKit Go.Proofs.Ytkdfdcppeolbjaa.Mem Go.Proofs.Ytkdfdcppeolbjaa.HistBase
attribute [local go_sem] cell_alloc_some cell_alloc2_some cell_alloc3_some cell_alloc4_some
set_option linter.unusedVariables false
set_option linter.unusedSimpArgs false
/-- A frame of nothing. -/
abbrev fr0 : Value := .agg #[.int .i64 0, .int .i64 0, .slice none 0 0, .int .i64 0, .int .i64 0, .bool false]
/-- A reply of a window. -/
abbrev rep (win : Int) : Value := .agg #[.int .i64 0, .int .i64 win, .int .i64 0, .int .i64 0, .int .i64 0, .slice none 0 0, .int .i64 0, .int .i64 0, .bool false]
theorem cells6 {W : World} {g : Nat} {t : TypeId} {a b c d e f : Value} (h : W.heap[g]? = some (.cells #[a, b, c, d, e, f] t (0, 0))) : W.cell? ⟨g, 0, none⟩ = some a ∧ W.cell? ⟨g, 1, none⟩ = some b ∧ W.cell? ⟨g, 2, none⟩ = some c ∧ W.cell? ⟨g, 3, none⟩ = some d ∧ W.cell? ⟨g, 4, none⟩ = some e ∧ W.cell? ⟨g, 5, none⟩ = some f ∧ ∀ j, W.frozen? ⟨g, j, none⟩ = false :=
  ⟨(bs_cell h 0).trans rfl, (bs_cell h 1).trans rfl, (bs_cell h 2).trans rfl, (bs_cell h 3).trans rfl, (bs_cell h 4).trans rfl, (bs_cell h 5).trans rfl, bs_frozen h⟩
set_option maxHeartbeats 4000000 in
theorem fstill_calls (w : World) : Calls Try.prog 18 #[fr0] w fun e W' => e = .returned fr0 ∧ Below w.heap.size w W' := by
  go_enter Try.func18, Try.ntmps18
  go_wp2
  refine wp_letter (fun M => Below w.heap.size w M ∧ M.heap[w.heap.size]? = some (.cells #[.int .i64 0, .int .i64 0, .slice none 0 0, .int .i64 0, .int .i64 0, .bool false] 43 (0, 0)) ∧ M.heap[w.heap.size + 1]? = some (.cells #[.int .i64 0, .int .i64 0, .slice none 0 0, .int .i64 0, .int .i64 0, .bool false] 43 (0, 0))) ⟨be_alloc (be_alloc (be_refl _) (Nat.le_refl _)) (by simp), bs_alloc (bs_new rfl), bs_new (by simp)⟩ ?_
  rintro M ⟨hB, h1, h2⟩
  have BM := hide hB
  have sM := hB.size
  obtain ⟨A, hA⟩ : ∃ A, A = w.heap.size := ⟨_, rfl⟩
  rw [← hA] at h1 h2 ⊢
  have HA := hide hA
  have n1 : A ≠ A + 1 := by omega
  have n2 : A + 1 ≠ A := by omega
  obtain ⟨c0, c1, c2, c3, c4, c5, fz⟩ := cells6 h1
  obtain ⟨d0, d1, d2, d3, d4, d5, gz⟩ := cells6 h2
  have H1 := hide h1
  have H2 := hide h2
  have HL := hide (show A + 1 < M.heap.size from bs_lt h2)
  clear hB h1 h2 hA sM
  go_loopw [3, 9] (fun v3 v9 wr => v3 = .slice none 0 0 ∧ v9 = .int .i64 0 ∧ wr = M) (fun v3 v9 _ => 0)
  case atStart => exact ⟨rfl, rfl, rfl⟩
  case round =>
    obtain ⟨rfl, rfl, rfl⟩ := hrel
    go_wp2
    have h1 := H1.out
    have h2 := H2.out
    have hB := BM.out
    have hA := HA.out
    refine bodyPost_ret (results_cell_row rfl _ _ (A + 1) 43 #[.int .i64 0, .int .i64 0, .slice none 0 0, .int .i64 0, .int .i64 0, .bool false] (0, 0) _ rfl ?_ Try.underlying43 rfl (by kernel_rfl)) rfl ?_
    · (apply bs_eq; (case h => (repeat (first | (with_reducible assumption) | (with_reducible apply bs_same) | (with_reducible apply bs_far; case hp => (dsimp only; omega)) | (with_reducible apply bs_drew) | (with_reducible apply bs_drewN) | (with_reducible apply bs_new; (first | (with_reducible rfl) | (simp; done))) | (with_reducible apply bs_alloc) | (with_reducible apply bs_below; (case hb => with_reducible assumption); (case hB => first | omega | (simp; omega) | (simp; done)))))); (case e => rfl))
    · exact ⟨rfl, by (repeat (first | (with_reducible assumption) | with_reducible exact be_refl _ | (with_reducible refine be_set ?_ (by dsimp only; omega)) | (with_reducible apply be_drew) | (with_reducible apply be_drewN) | (with_reducible refine be_alloc ?_ (by first | omega | (simp; omega) | simp)) | (with_reducible refine be_call (by with_reducible assumption) (by first | omega | (simp; omega) | simp) ?_)))⟩
theorem cells10 {W : World} {g : Nat} {t : TypeId} {a b c d e f x y z : Value} (h : W.heap[g]? = some (.cells #[a, b, c, d, e, f, x, y, z] t (0, 0))) : W.cell? ⟨g, 0, none⟩ = some a ∧ W.cell? ⟨g, 1, none⟩ = some b ∧ W.cell? ⟨g, 2, none⟩ = some c ∧ W.cell? ⟨g, 3, none⟩ = some d ∧ W.cell? ⟨g, 4, none⟩ = some e ∧ W.cell? ⟨g, 5, none⟩ = some f ∧ W.cell? ⟨g, 6, none⟩ = some x ∧ W.cell? ⟨g, 7, none⟩ = some y ∧ W.cell? ⟨g, 8, none⟩ = some z ∧ ∀ j, W.frozen? ⟨g, j, none⟩ = false :=
  ⟨(bs_cell h 0).trans rfl, (bs_cell h 1).trans rfl, (bs_cell h 2).trans rfl, (bs_cell h 3).trans rfl, (bs_cell h 4).trans rfl, (bs_cell h 5).trans rfl, (bs_cell h 6).trans rfl, (bs_cell h 7).trans rfl, (bs_cell h 8).trans rfl, bs_frozen h⟩
set_option maxHeartbeats 4000000 in
theorem still_calls (win : Int) (w : World) : Calls Try.prog 16 #[rep win] w fun e W' => e = .returned (rep win) ∧ Below w.heap.size w W' := by
  dsimp only [rep, fr0]
  go_enter Try.func16, Try.ntmps16
  go_upto_region 1 with fail
  refine wp_letter (fun M => Below w.heap.size w M ∧ M.heap[w.heap.size]? = some (.cells #[.int .i64 0, .int .i64 win, .int .i64 0, .int .i64 0, .int .i64 0, .slice none 0 0, .int .i64 0, .int .i64 0, .bool false] 45 (0, 0)) ∧ M.heap[w.heap.size + 1]? = some (.cells #[.int .i64 0, .int .i64 0, .int .i64 0, .int .i64 0, .int .i64 0, .slice none 0 0, .int .i64 0, .int .i64 0, .bool false] 45 (0, 0))) ⟨be_alloc (be_alloc (be_refl _) (Nat.le_refl _)) (by simp), bs_alloc (bs_new rfl), bs_new (by simp)⟩ ?_
  rintro M ⟨hB, h1, h2⟩
  have BM := hide hB
  have sM := hB.size
  obtain ⟨A, hA⟩ : ∃ A, A = w.heap.size := ⟨_, rfl⟩
  rw [← hA] at h1 h2 ⊢
  have HA := hide hA
  obtain ⟨c0, c1, c2, c3, c4, c5, c6, c7, c8, fz⟩ := cells10 h1
  have H1 := hide h1
  have H2 := hide h2
  clear hB h1 h2 hA sM
  go_wp2_with (go_at_call 18; (with_reducible refine (fstill_calls M).mono ?_); rintro e W2 ⟨rfl, hb⟩; have HB2 := hide hb; obtain ⟨c0, c1, c2, c3, c4, c5, c6, c7, c8, fz⟩ := cells10 (bs_below hb (bs_lt H1.out) H1.out); obtain ⟨d0, d1, d2, d3, d4, d5, d6, d7, d8, gz⟩ := cells10 (bs_below hb (bs_lt H2.out) H2.out); have n1 : A ≠ A + 1 := (by omega); have n2 : A + 1 ≠ A := (by omega); clear hb)

  have hA := HA.out
  have sM := bs_lt H2.out
  have hb2 := HB2.out
  have h1 := bs_below hb2 (bs_lt H1.out) H1.out
  have h2 := bs_below hb2 (bs_lt H2.out) H2.out
  have hB := be_call hb2 BM.out.size BM.out
  refine bodyPost_ret (results_cell_row rfl _ _ (A + 1) 45 #[.int .i64 0, .int .i64 win, .int .i64 0, .int .i64 0, .int .i64 0, .slice none 0 0, .int .i64 0, .int .i64 0, .bool false] (0, 0) _ rfl ?_ Try.underlying45 rfl (by kernel_rfl)) rfl ?_
  · (apply bs_eq; (case h => (repeat (first | (with_reducible assumption) | (with_reducible apply bs_same) | (with_reducible apply bs_far; case hp => (dsimp only; omega)) | (with_reducible apply bs_drew) | (with_reducible apply bs_drewN) | (with_reducible apply bs_new; (first | (with_reducible rfl) | (simp; done))) | (with_reducible apply bs_alloc) | (with_reducible apply bs_below; (case hb => with_reducible assumption); (case hB => first | omega | (simp; omega) | (simp; done)))))); (case e => rfl))
  · exact ⟨rfl, by (repeat (first | (with_reducible assumption) | with_reducible exact be_refl _ | (with_reducible refine be_set ?_ (by dsimp only; omega)) | (with_reducible apply be_drew) | (with_reducible apply be_drewN) | (with_reducible refine be_alloc ?_ (by first | omega | (simp; omega) | simp)) | (with_reducible refine be_call (by with_reducible assumption) (by first | omega | (simp; omega) | simp) ?_)))⟩
end Go.Proofs.Ytkdfdcppeolbjaa.HistStill


