/- What utfd.Step hands back: a contract, for every byte and every rune that is begun. -/
import Derived.Test.YtiahfgcfgpakiaaEscaUtf
namespace Go.Proofs.Ytiahfgcfgpakiaa.EscaVal
open Go Go.RowKit Go.Proofs.YtiahfgcfgpakiaaKit Go.Proofs.Ytiahfgcfgpakiaa.Mem Go.Proofs.YtiahfgcfgpakiaaW.PrintWords Go.Proofs.YtiahfgcfgpakiaaW.PrintLast Go.Proofs.Ytiahfgcfgpakiaa.Split
set_option linter.unusedVariables false
set_option linter.unusedSimpArgs false
section
variable (n1 n2 n3 : Int) (b : Int) (w : World)
theorem utf_none (h0 : 0 ≤ b) (h1 : b ≤ 255) (g : n1 ≤ 0) : Calls Try.prog 32 #[.agg #[.int .i64 n1, .int .i64 n2, .int .i64 n3], .int .u8 b] w (UtfOut w (utfP n1 n2 n3 b)) := by
  rw [show utfP n1 n2 n3 b = beginP b by unfold utfP; rw [if_pos g]]
  have p1 : (n1 ≤ 0) = True := eq_true g
  obtain ⟨u, hu⟩ : ∃ u, u = beginP b := ⟨_, rfl⟩
  have BV := fun W => hide (begin_val b h0 h1 W)
  rw [← hu] at BV ⊢
  clear g hu
  go_enter Try.func32, Try.ntmps32
  go_wp2_with (go_at_call 34; (with_reducible refine (BV _).out.mono ?_); rintro e w9 ⟨v, rfl, hR, hb9⟩; have hz9 := hb9.size; (try simp at hz9); obtain ⟨hc9, hf9⟩ := be_cells hb9; have z9 : w.heap.size < w9.heap.size := (by omega); have y9 : w.heap.size + 1 < w9.heap.size := (by omega))
  refine bodyPost_ret (results_ct rfl _ _ (w.heap.size + 1) 31 #[.int .i64 u.1.1, .int .i64 u.1.2.1, .int .i64 u.1.2.2] (0, 0) _ rfl ?_ Try.underlying31 rfl (by kernel_rfl)) rfl ?_
  · (apply bs_eq; (case h => (repeat (first | (with_reducible assumption) | (with_reducible apply bs_same) | (with_reducible apply bs_far; case hp => (dsimp only; omega)) | (with_reducible apply bs_drew) | (with_reducible apply bs_drewN) | (with_reducible apply bs_new; (first | (with_reducible rfl) | (simp; done))) | (with_reducible apply bs_alloc) | (with_reducible apply bs_below; (case hb => with_reducible assumption); (case hB => first | omega | (simp; omega) | (simp; done)))))); (case e => rfl))
  · refine ⟨_, rfl, RunesR.lower (base := w.heap.size + 2) ?_ (by omega), by (repeat (first | (with_reducible assumption) | with_reducible exact be_refl _ | (with_reducible refine be_set ?_ (by dsimp only; omega)) | (with_reducible apply be_drew) | (with_reducible apply be_drewN) | (with_reducible refine be_alloc ?_ (by first | omega | (simp; omega) | simp)) | (with_reducible refine be_call (by with_reducible assumption) (by first | omega | (simp; omega) | simp) ?_)))⟩
    repeat (with_reducible refine RunesR.set ?_ (by dsimp only; omega) _)
    simpa using hR
theorem utf_on (h0 : 0 ≤ b) (h1 : b ≤ 255) (g : 0 < n1) (g1 : 128 ≤ b) (g2 : b ≤ 191) (s0 : n1 ≤ 3) (s1 : 0 ≤ n3) (s2 : n3 < 32768) (g3 : 0 < n1 - 1) : Calls Try.prog 32 #[.agg #[.int .i64 n1, .int .i64 n2, .int .i64 n3], .int .u8 b] w (UtfOut w (utfP n1 n2 n3 b)) := by
  rw [show utfP n1 n2 n3 b = ((n1 - 1, n2, 64 * n3 + Go.bits .and .u8 b 63), []) by unfold utfP; rw [if_neg (by omega), if_neg (by omega), if_pos g3]]
  have h6 := and63 b
  obtain ⟨K, hK⟩ : ∃ K, Go.bits .and .u8 b 63 = K := ⟨_, rfl⟩
  rw [hK] at h6 ⊢
  have p1 : (n1 ≤ 0) = False := eq_false (by omega)
  have p2 : (b < 128) = False := eq_false (by omega)
  have p3 : (191 < b) = False := eq_false (by omega)
  have p4 : (0 < n1 - 1) = True := eq_true g3
  have h60 := h6.1
  have h63 := h6.2
  clear h6 g1 g2
  go_enter Try.func32, Try.ntmps32
  go_wp2
  refine bodyPost_ret (results_ct rfl _ _ (w.heap.size + 1) 31 #[.int .i64 (n1 - 1), .int .i64 n2, .int .i64 (64 * n3 + K)] (0, 0) _ rfl ?_ Try.underlying31 rfl (by kernel_rfl)) rfl ?_
  · (apply bs_eq; (case h => (repeat (first | (with_reducible assumption) | (with_reducible apply bs_same) | (with_reducible apply bs_far; case hp => (dsimp only; omega)) | (with_reducible apply bs_drew) | (with_reducible apply bs_drewN) | (with_reducible apply bs_new; (first | (with_reducible rfl) | (simp; done))) | (with_reducible apply bs_alloc) | (with_reducible apply bs_below; (case hb => with_reducible assumption); (case hB => first | omega | (simp; omega) | (simp; done)))))); (case e => rfl))
  · exact ⟨_, rfl, RunesR.nil _ _, by (repeat (first | (with_reducible assumption) | with_reducible exact be_refl _ | (with_reducible refine be_set ?_ (by dsimp only; omega)) | (with_reducible apply be_drew) | (with_reducible apply be_drewN) | (with_reducible refine be_alloc ?_ (by first | omega | (simp; omega) | simp)) | (with_reducible refine be_call (by with_reducible assumption) (by first | omega | (simp; omega) | simp) ?_)))⟩
theorem utf_bad (h0 : 0 ≤ b) (h1 : b ≤ 255) (g : 0 < n1) (g1 : 128 ≤ b) (g2 : b ≤ 191) (s0 : n1 ≤ 3) (s1 : 0 ≤ n3) (s2 : n3 < 32768) (g3 : ¬ 0 < n1 - 1) (g4 : 64 * n3 + Go.bits .and .u8 b 63 < n2 ∨ 1114111 < 64 * n3 + Go.bits .and .u8 b 63 ∨ (55296 ≤ 64 * n3 + Go.bits .and .u8 b 63 ∧ 64 * n3 + Go.bits .and .u8 b 63 ≤ 57343)) : Calls Try.prog 32 #[.agg #[.int .i64 n1, .int .i64 n2, .int .i64 n3], .int .u8 b] w (UtfOut w (utfP n1 n2 n3 b)) := by
  rw [show utfP n1 n2 n3 b = ((0, 0, 0), [65533]) by unfold utfP; rw [if_neg (by omega), if_neg (by omega), if_neg g3, if_pos g4]]
  have h6 := and63 b
  obtain ⟨K, hK⟩ : ∃ K, Go.bits .and .u8 b 63 = K := ⟨_, rfl⟩
  rw [hK] at h6 g4
  have p1 : (n1 ≤ 0) = False := eq_false (by omega)
  have p2 : (b < 128) = False := eq_false (by omega)
  have p3 : (191 < b) = False := eq_false (by omega)
  have p4 : (0 < n1 - 1) = False := eq_false g3
  have h60 := h6.1
  have h63 := h6.2
  clear h6 g1 g2
  by_cases g5 : 64 * n3 + K < n2
  · have p5 : (64 * n3 + K < n2) = True := eq_true g5
    clear g5 g4
    go_enter Try.func32, Try.ntmps32
    go_wp2
    refine bodyPost_ret (results_ct rfl _ _ (w.heap.size + 1) 31 #[.int .i64 0, .int .i64 0, .int .i64 0] (0, 0) _ rfl ?_ Try.underlying31 rfl (by kernel_rfl)) rfl ?_
    · (apply bs_eq; (case h => (repeat (first | (with_reducible assumption) | (with_reducible apply bs_same) | (with_reducible apply bs_far; case hp => (dsimp only; omega)) | (with_reducible apply bs_drew) | (with_reducible apply bs_drewN) | (with_reducible apply bs_new; (first | (with_reducible rfl) | (simp; done))) | (with_reducible apply bs_alloc) | (with_reducible apply bs_below; (case hb => with_reducible assumption); (case hB => first | omega | (simp; omega) | (simp; done)))))); (case e => rfl))
    · exact ⟨_, rfl, RunesR.one (b := w.heap.size + 2) (by (repeat (first | (with_reducible assumption) | (with_reducible apply bs_same) | (with_reducible apply bs_far; case hp => (dsimp only; omega)) | (with_reducible apply bs_drew) | (with_reducible apply bs_drewN) | (with_reducible apply bs_new; (first | (with_reducible rfl) | (simp; done))) | (with_reducible apply bs_alloc) | (with_reducible apply bs_below; (case hb => with_reducible assumption); (case hB => first | omega | (simp; omega) | (simp; done)))))) (by omega), by (repeat (first | (with_reducible assumption) | with_reducible exact be_refl _ | (with_reducible refine be_set ?_ (by dsimp only; omega)) | (with_reducible apply be_drew) | (with_reducible apply be_drewN) | (with_reducible refine be_alloc ?_ (by first | omega | (simp; omega) | simp)) | (with_reducible refine be_call (by with_reducible assumption) (by first | omega | (simp; omega) | simp) ?_)))⟩
  · have p5 : (64 * n3 + K < n2) = False := eq_false g5
    have NV := fun W => hide (no_val (64 * n3 + K) true (by rcases g4 with g4 | g4 | g4 <;> first | exact absurd g4 g5 | (simp [g4]; done)) (by omega) W)
    clear g5 g4
    go_enter Try.func32, Try.ntmps32
    go_wp2_with (go_at_call 35; (with_reducible refine (NV _).out.mono ?_); rintro e w9 ⟨rfl, hv⟩; subst hv)
    refine bodyPost_ret (results_ct rfl _ _ (w.heap.size + 1) 31 #[.int .i64 0, .int .i64 0, .int .i64 0] (0, 0) _ rfl ?_ Try.underlying31 rfl (by kernel_rfl)) rfl ?_
    · (apply bs_eq; (case h => (repeat (first | (with_reducible assumption) | (with_reducible apply bs_same) | (with_reducible apply bs_far; case hp => (dsimp only; omega)) | (with_reducible apply bs_drew) | (with_reducible apply bs_drewN) | (with_reducible apply bs_new; (first | (with_reducible rfl) | (simp; done))) | (with_reducible apply bs_alloc) | (with_reducible apply bs_below; (case hb => with_reducible assumption); (case hB => first | omega | (simp; omega) | (simp; done)))))); (case e => rfl))
    · exact ⟨_, rfl, RunesR.one (b := w.heap.size + 2) (by (repeat (first | (with_reducible assumption) | (with_reducible apply bs_same) | (with_reducible apply bs_far; case hp => (dsimp only; omega)) | (with_reducible apply bs_drew) | (with_reducible apply bs_drewN) | (with_reducible apply bs_new; (first | (with_reducible rfl) | (simp; done))) | (with_reducible apply bs_alloc) | (with_reducible apply bs_below; (case hb => with_reducible assumption); (case hB => first | omega | (simp; omega) | (simp; done)))))) (by omega), by (repeat (first | (with_reducible assumption) | with_reducible exact be_refl _ | (with_reducible refine be_set ?_ (by dsimp only; omega)) | (with_reducible apply be_drew) | (with_reducible apply be_drewN) | (with_reducible refine be_alloc ?_ (by first | omega | (simp; omega) | simp)) | (with_reducible refine be_call (by with_reducible assumption) (by first | omega | (simp; omega) | simp) ?_)))⟩
theorem utf_got (h0 : 0 ≤ b) (h1 : b ≤ 255) (g : 0 < n1) (g1 : 128 ≤ b) (g2 : b ≤ 191) (s0 : n1 ≤ 3) (s1 : 0 ≤ n3) (s2 : n3 < 32768) (g3 : ¬ 0 < n1 - 1) (g4 : ¬ (64 * n3 + Go.bits .and .u8 b 63 < n2 ∨ 1114111 < 64 * n3 + Go.bits .and .u8 b 63 ∨ (55296 ≤ 64 * n3 + Go.bits .and .u8 b 63 ∧ 64 * n3 + Go.bits .and .u8 b 63 ≤ 57343))) : Calls Try.prog 32 #[.agg #[.int .i64 n1, .int .i64 n2, .int .i64 n3], .int .u8 b] w (UtfOut w (utfP n1 n2 n3 b)) := by
  rw [show utfP n1 n2 n3 b = ((0, 0, 0), [64 * n3 + Go.bits .and .u8 b 63]) by unfold utfP; rw [if_neg (by omega), if_neg (by omega), if_neg g3, if_neg g4]]
  have h6 := and63 b
  obtain ⟨K, hK⟩ : ∃ K, Go.bits .and .u8 b 63 = K := ⟨_, rfl⟩
  rw [hK] at h6 g4 ⊢
  have p1 : (n1 ≤ 0) = False := eq_false (by omega)
  have p2 : (b < 128) = False := eq_false (by omega)
  have p3 : (191 < b) = False := eq_false (by omega)
  have p4 : (0 < n1 - 1) = False := eq_false g3
  have p5 : (64 * n3 + K < n2) = False := eq_false (by omega)
  have h60 := h6.1
  have h63 := h6.2
  have NV := fun W => hide (no_val (64 * n3 + K) false (by simp; omega) (by omega) W)
  clear h6 g1 g2 g4
  go_enter Try.func32, Try.ntmps32
  go_upto_region 11 with (go_at_call 35; (with_reducible refine (NV _).out.mono ?_); rintro e w9 ⟨rfl, hv⟩; subst hv)
  apply wp_letter2 (w.heap.size) w (w.heap.size) 31 (w.heap.size + 1) 31
  case h0 => (repeat (first | (with_reducible assumption) | (with_reducible apply bs_same) | (with_reducible apply bs_far; case hp => (dsimp only; omega)) | (with_reducible apply bs_drew) | (with_reducible apply bs_drewN) | (with_reducible apply bs_new; (first | (with_reducible rfl) | (simp; done))) | (with_reducible apply bs_alloc) | (with_reducible apply bs_below; (case hb => with_reducible assumption); (case hB => first | omega | (simp; omega) | (simp; done)))))
  case h1 => (repeat (first | (with_reducible assumption) | (with_reducible apply bs_same) | (with_reducible apply bs_far; case hp => (dsimp only; omega)) | (with_reducible apply bs_drew) | (with_reducible apply bs_drewN) | (with_reducible apply bs_new; (first | (with_reducible rfl) | (simp; done))) | (with_reducible apply bs_alloc) | (with_reducible apply bs_below; (case hb => with_reducible assumption); (case hB => first | omega | (simp; omega) | (simp; done)))))
  case hb => (repeat (first | (with_reducible assumption) | with_reducible exact be_refl _ | (with_reducible refine be_set ?_ (by dsimp only; omega)) | (with_reducible apply be_drew) | (with_reducible apply be_drewN) | (with_reducible refine be_alloc ?_ (by first | omega | (simp; omega) | simp)) | (with_reducible refine be_call (by with_reducible assumption) (by first | omega | (simp; omega) | simp) ?_)))
  intro w1_ k1_0 k1_1 HB1
  try simp only [List.setIfInBounds_toArray, List.set_cons_zero, List.set_cons_succ] at k1_0 k1_1
  obtain ⟨c1_0_0, c1_0_1, c1_0_2, f1_0⟩ := cells3 k1_0
  have s1_0 := bs_lt k1_0
  obtain ⟨c1_1_0, c1_1_1, c1_1_2, f1_1⟩ := cells3 k1_1
  have s1_1 := bs_lt k1_1
  have nb : w.heap.size ≠ w.heap.size + 1 := by omega
  have nb2 : w.heap.size + 1 ≠ w.heap.size := by omega
  go_region
  all_goals
    go_wp2
  all_goals
    refine bodyPost_ret (results_ct rfl _ _ (w.heap.size + 1) 31 #[.int .i64 0, .int .i64 0, .int .i64 0] (0, 0) _ rfl ?_ Try.underlying31 rfl (by kernel_rfl)) rfl ?_
  all_goals first
    | ((apply bs_eq; (case h => (repeat (first | (with_reducible assumption) | (with_reducible apply bs_same) | (with_reducible apply bs_far; case hp => (dsimp only; omega)) | (with_reducible apply bs_drew) | (with_reducible apply bs_drewN) | (with_reducible apply bs_new; (first | (with_reducible rfl) | (simp; done))) | (with_reducible apply bs_alloc) | (with_reducible apply bs_below; (case hb => with_reducible assumption); (case hB => first | omega | (simp; omega) | (simp; done)))))); (case e => rfl)); done)
    | (exact ⟨_, rfl, RunesR.one (by (repeat (first | (with_reducible assumption) | (with_reducible apply bs_same) | (with_reducible apply bs_far; case hp => (dsimp only; omega)) | (with_reducible apply bs_drew) | (with_reducible apply bs_drewN) | (with_reducible apply bs_new; (first | (with_reducible rfl) | (simp; done))) | (with_reducible apply bs_alloc) | (with_reducible apply bs_below; (case hb => with_reducible assumption); (case hB => first | omega | (simp; omega) | (simp; done)))))) (by first | omega | (simp; omega) | simp), by (repeat (first | (with_reducible assumption) | with_reducible exact be_refl _ | (with_reducible refine be_set ?_ (by dsimp only; omega)) | (with_reducible apply be_drew) | (with_reducible apply be_drewN) | (with_reducible refine be_alloc ?_ (by first | omega | (simp; omega) | simp)) | (with_reducible refine be_call (by with_reducible assumption) (by first | omega | (simp; omega) | simp) ?_)))⟩)
end
end Go.Proofs.Ytiahfgcfgpakiaa.EscaVal


