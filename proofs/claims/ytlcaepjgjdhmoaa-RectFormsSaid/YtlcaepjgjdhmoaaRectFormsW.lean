/- RectForms: rectangles that can be cut, and such as can't, are told: for every number of a row, without a condition. -/
import Derived.Test.YtlcaepjgjdhmoaaKit2
import Derived.Test.YtlcaepjgjdhmoaaPRectWholex2
namespace Go.Proofs.Ytlcaepjgjdhmoaa.RectFormsW
open Go.RowKit Go.Proofs.YtlcaepjgjdhmoaaKit2 Go.Proofs.Ytlcaepjgjdhmoaa.PRectWhole Go.Proofs.YtlcaepjgjdhmoaaW.PrintWords Go.Proofs.YtlcaepjgjdhmoaaW.PrintLast
set_option linter.unusedVariables false
set_option linter.unusedSimpArgs false
theorem index_cases (n : Int) : ∃ k : Fin 15, (Go.bits .and .i64 n 255).tmod 15 = ((k.val : Nat) : Int) := by
  have h : 0 ≤ Go.bits .and .i64 n 255 ∧ Go.bits .and .i64 n 255 ≤ 255 := and_range 8 (by omega) n
  have e : (Go.bits .and .i64 n 255).tmod 15 = Go.bits .and .i64 n 255 % 15 := Int.tmod_eq_emod_of_nonneg h.1
  exact ⟨⟨(Go.bits .and .i64 n 255 % 15).toNat, by omega⟩, by rw [e]; simp only []; omega⟩
theorem cut0 : rect_Cut.f 1 1 5 4 1 1 = some (1, 1, 1, 4, 2, 1, 1, 4, 3, 1, 3, 4, true) := by kernel_rfl
theorem cut1 : rect_Cut.f 1 1 5 4 1 3 = some (1, 1, 3, 4, 4, 1, 1, 4, 5, 1, 1, 4, true) := by kernel_rfl
theorem cut2 : rect_Cut.f 1 1 5 4 1 4 = some (0, 0, 0, 0, 0, 0, 0, 0, 0, 0, 0, 0, false) := by kernel_rfl
theorem cut3 : rect_Cut.f 1 1 5 4 1 0 = some (0, 0, 0, 0, 0, 0, 0, 0, 0, 0, 0, 0, false) := by kernel_rfl
theorem cut4 : rect_Cut.f 1 1 5 4 1 (-1) = some (0, 0, 0, 0, 0, 0, 0, 0, 0, 0, 0, 0, false) := by kernel_rfl
theorem cut5 : rect_Cut.f 1 1 5 4 2 2 = some (1, 1, 5, 2, 1, 3, 5, 1, 1, 4, 5, 1, true) := by kernel_rfl
theorem cut6 : rect_Cut.f 1 1 5 4 2 3 = some (0, 0, 0, 0, 0, 0, 0, 0, 0, 0, 0, 0, false) := by kernel_rfl
theorem cut7 : rect_Cut.f 1 1 5 4 0 1 = some (0, 0, 0, 0, 0, 0, 0, 0, 0, 0, 0, 0, false) := by kernel_rfl
theorem cut8 : rect_Cut.f 1 1 5 4 3 1 = some (0, 0, 0, 0, 0, 0, 0, 0, 0, 0, 0, 0, false) := by kernel_rfl
theorem cut9 : rect_Cut.f 0 0 3 0 1 1 = some (0, 0, 1, 0, 1, 0, 1, 0, 2, 0, 1, 0, true) := by kernel_rfl
theorem cut10 : rect_Cut.f 0 0 2 9 1 1 = some (0, 0, 0, 0, 0, 0, 0, 0, 0, 0, 0, 0, false) := by kernel_rfl
theorem cut11 : rect_Cut.f (-1) 0 9 9 1 1 = some (0, 0, 0, 0, 0, 0, 0, 0, 0, 0, 0, 0, false) := by kernel_rfl
theorem cut12 : rect_Cut.f 0 0 1001 9 1 1 = some (0, 0, 0, 0, 0, 0, 0, 0, 0, 0, 0, 0, false) := by kernel_rfl
theorem cut13 : rect_Cut.f 1000 1000 1000 1000 2 998 = some (1000, 1000, 1000, 998, 1000, 1998, 1000, 1, 1000, 1999, 1000, 1, true) := by kernel_rfl
theorem cut14 : rect_Cut.f 1000 1000 1000 1000 2 999 = some (0, 0, 0, 0, 0, 0, 0, 0, 0, 0, 0, 0, false) := by kernel_rfl
set_option maxHeartbeats 8000000 in
set_option maxRecDepth 100000 in
theorem walk (n : Int) (w : World) :
    Calls Try.prog 3 #[.int .i64 n] w fun e w' => e = .returned (.bool true) ∧ Below w.heap.size w w' := by
  go_enter Try.func3, Try.ntmps3
  go_upto_region 3 with fail
  apply wp_letter1 (w.heap.size) w (w.heap.size + 1) 24
  case h0 => (repeat (first | (with_reducible assumption) | (with_reducible apply bs_same) | (with_reducible apply bs_far; case hp => (dsimp only; omega)) | (with_reducible apply bs_drew) | (with_reducible apply bs_drewN) | (with_reducible apply bs_new; (first | (with_reducible rfl) | (simp; done))) | (with_reducible apply bs_alloc) | (with_reducible apply bs_below; (case hb => with_reducible assumption); (case hB => first | omega | (simp; omega) | (simp; done)))))
  case hb => (repeat (first | (with_reducible assumption) | with_reducible exact be_refl _ | (with_reducible refine be_set ?_ (by dsimp only; omega)) | (with_reducible apply be_drew) | (with_reducible apply be_drewN) | (with_reducible refine be_alloc ?_ (by first | omega | (simp; omega) | simp)) | (with_reducible refine be_call (by with_reducible assumption) (by first | omega | (simp; omega) | simp) ?_)))
  intro w1_ k1_0 HB1
  have s1_0 := bs_lt k1_0
  have fz := fun i => bs_frozen k1_0 i
  obtain ⟨k, hk⟩ := index_cases n
  obtain ⟨k, hlt⟩ := k
  rcases (show k = 0 ∨ k = 1 ∨ k = 2 ∨ k = 3 ∨ k = 4 ∨ k = 5 ∨ k = 6 ∨ k = 7 ∨ k = 8 ∨ k = 9 ∨ k = 10 ∨ k = 11 ∨ k = 12 ∨ k = 13 ∨ k = 14 by omega) with rfl | rfl | rfl | rfl | rfl | rfl | rfl | rfl | rfl | rfl | rfl | rfl | rfl | rfl | rfl
  · have H1 := hide cut0
    have hk1 : (Go.bits .and .i64 n 255).tmod 15 = 0 := hk
    clear hk
    have g0 := (bs_cell k1_0 0).trans rfl
    have g1 := (bs_cell k1_0 1).trans rfl
    have g2 := (bs_cell k1_0 2).trans rfl
    have g3 := (bs_cell k1_0 3).trans rfl
    have g4 := (bs_cell k1_0 4).trans rfl
    have g5 := (bs_cell k1_0 5).trans rfl
    have g6 := (bs_cell k1_0 6).trans rfl
    clear k1_0
    go_upto_region 5 with (go_at_call 7; refine (rect_Cut.calls _ _ _ _ _ _ _ _ _ _ _ _ _ _ _ _ _ _ _ _ H1.out).mono ?_; rintro e v1 ⟨rfl, hb1⟩; obtain ⟨hc1, hf1⟩ := be_known hb1; have y1 := hb1.size; (try simp only [World.size_alloc] at y1))
    have z0 : w.heap.size + 1 < w1_.heap.size := s1_0
    have z1 : w1_.heap.size < v1.heap.size := by first | omega | (simp at y1; omega)
    apply wp_letter4 (w.heap.size) w (w1_.heap.size) 24 (v1.heap.size) 23 (v1.heap.size + 1) 23 (v1.heap.size + 1 + 1) 23
    case h0 => (repeat (first | (with_reducible assumption) | (with_reducible apply bs_same) | (with_reducible apply bs_far; case hp => (dsimp only; omega)) | (with_reducible apply bs_drew) | (with_reducible apply bs_drewN) | (with_reducible apply bs_new; (first | (with_reducible rfl) | (simp; done))) | (with_reducible apply bs_alloc) | (with_reducible apply bs_below; (case hb => with_reducible assumption); (case hB => first | omega | (simp; omega) | (simp; done)))))
    case h1 => (repeat (first | (with_reducible assumption) | (with_reducible apply bs_same) | (with_reducible apply bs_far; case hp => (dsimp only; omega)) | (with_reducible apply bs_drew) | (with_reducible apply bs_drewN) | (with_reducible apply bs_new; (first | (with_reducible rfl) | (simp; done))) | (with_reducible apply bs_alloc) | (with_reducible apply bs_below; (case hb => with_reducible assumption); (case hB => first | omega | (simp; omega) | (simp; done)))))
    case h2 => (repeat (first | (with_reducible assumption) | (with_reducible apply bs_same) | (with_reducible apply bs_far; case hp => (dsimp only; omega)) | (with_reducible apply bs_drew) | (with_reducible apply bs_drewN) | (with_reducible apply bs_new; (first | (with_reducible rfl) | (simp; done))) | (with_reducible apply bs_alloc) | (with_reducible apply bs_below; (case hb => with_reducible assumption); (case hB => first | omega | (simp; omega) | (simp; done)))))
    case h3 => (repeat (first | (with_reducible assumption) | (with_reducible apply bs_same) | (with_reducible apply bs_far; case hp => (dsimp only; omega)) | (with_reducible apply bs_drew) | (with_reducible apply bs_drewN) | (with_reducible apply bs_new; (first | (with_reducible rfl) | (simp; done))) | (with_reducible apply bs_alloc) | (with_reducible apply bs_below; (case hb => with_reducible assumption); (case hB => first | omega | (simp; omega) | (simp; done)))))
    case hb => (repeat (first | (with_reducible assumption) | with_reducible exact be_refl _ | (with_reducible refine be_set ?_ (by dsimp only; omega)) | (with_reducible apply be_drew) | (with_reducible apply be_drewN) | (with_reducible refine be_alloc ?_ (by first | omega | (simp; omega) | simp)) | (with_reducible refine be_call (by with_reducible assumption) (by first | omega | (simp; omega) | simp) ?_)))
    intro w1_ k1_0 k1_1 k1_2 k1_3 HB1
    try simp only [List.setIfInBounds_toArray, List.set_cons_zero, List.set_cons_succ] at k1_0 k1_1 k1_2 k1_3
    clear g0 g1 g2 g3 g4 g5 g6 fz hb1 hc1 hf1 y1
    obtain ⟨c1_0_0, c1_0_1, c1_0_2, c1_0_3, c1_0_4, c1_0_5, c1_0_6, f1_0⟩ := cells7 k1_0
    have s1_0 := bs_lt k1_0
    obtain ⟨c1_1_0, c1_1_1, c1_1_2, c1_1_3, f1_1⟩ := cells4 k1_1
    have s1_1 := bs_lt k1_1
    obtain ⟨c1_2_0, c1_2_1, c1_2_2, c1_2_3, f1_2⟩ := cells4 k1_2
    have s1_2 := bs_lt k1_2
    obtain ⟨c1_3_0, c1_3_1, c1_3_2, c1_3_3, f1_3⟩ := cells4 k1_3
    have s1_3 := bs_lt k1_3
    go_wp2_with (go_at_call 8; refine (polyptychlaw9_awake.calls true _ rfl).mono ?_; rintro e v2 ⟨rfl, hb2⟩)
    go_ret
    exact ⟨rfl, by (repeat (first | (with_reducible assumption) | with_reducible exact be_refl _ | (with_reducible refine be_set ?_ (by dsimp only; omega)) | (with_reducible apply be_drew) | (with_reducible apply be_drewN) | (with_reducible refine be_alloc ?_ (by first | omega | (simp; omega) | simp)) | (with_reducible refine be_call (by with_reducible assumption) (by first | omega | (simp; omega) | simp) ?_)))⟩
  · have H1 := hide cut1
    have hk1 : (Go.bits .and .i64 n 255).tmod 15 = 1 := hk
    clear hk
    have g0 := (bs_cell k1_0 7).trans rfl
    have g1 := (bs_cell k1_0 8).trans rfl
    have g2 := (bs_cell k1_0 9).trans rfl
    have g3 := (bs_cell k1_0 10).trans rfl
    have g4 := (bs_cell k1_0 11).trans rfl
    have g5 := (bs_cell k1_0 12).trans rfl
    have g6 := (bs_cell k1_0 13).trans rfl
    clear k1_0
    go_upto_region 5 with (go_at_call 7; refine (rect_Cut.calls _ _ _ _ _ _ _ _ _ _ _ _ _ _ _ _ _ _ _ _ H1.out).mono ?_; rintro e v1 ⟨rfl, hb1⟩; obtain ⟨hc1, hf1⟩ := be_known hb1; have y1 := hb1.size; (try simp only [World.size_alloc] at y1))
    have z0 : w.heap.size + 1 < w1_.heap.size := s1_0
    have z1 : w1_.heap.size < v1.heap.size := by first | omega | (simp at y1; omega)
    apply wp_letter4 (w.heap.size) w (w1_.heap.size) 24 (v1.heap.size) 23 (v1.heap.size + 1) 23 (v1.heap.size + 1 + 1) 23
    case h0 => (repeat (first | (with_reducible assumption) | (with_reducible apply bs_same) | (with_reducible apply bs_far; case hp => (dsimp only; omega)) | (with_reducible apply bs_drew) | (with_reducible apply bs_drewN) | (with_reducible apply bs_new; (first | (with_reducible rfl) | (simp; done))) | (with_reducible apply bs_alloc) | (with_reducible apply bs_below; (case hb => with_reducible assumption); (case hB => first | omega | (simp; omega) | (simp; done)))))
    case h1 => (repeat (first | (with_reducible assumption) | (with_reducible apply bs_same) | (with_reducible apply bs_far; case hp => (dsimp only; omega)) | (with_reducible apply bs_drew) | (with_reducible apply bs_drewN) | (with_reducible apply bs_new; (first | (with_reducible rfl) | (simp; done))) | (with_reducible apply bs_alloc) | (with_reducible apply bs_below; (case hb => with_reducible assumption); (case hB => first | omega | (simp; omega) | (simp; done)))))
    case h2 => (repeat (first | (with_reducible assumption) | (with_reducible apply bs_same) | (with_reducible apply bs_far; case hp => (dsimp only; omega)) | (with_reducible apply bs_drew) | (with_reducible apply bs_drewN) | (with_reducible apply bs_new; (first | (with_reducible rfl) | (simp; done))) | (with_reducible apply bs_alloc) | (with_reducible apply bs_below; (case hb => with_reducible assumption); (case hB => first | omega | (simp; omega) | (simp; done)))))
    case h3 => (repeat (first | (with_reducible assumption) | (with_reducible apply bs_same) | (with_reducible apply bs_far; case hp => (dsimp only; omega)) | (with_reducible apply bs_drew) | (with_reducible apply bs_drewN) | (with_reducible apply bs_new; (first | (with_reducible rfl) | (simp; done))) | (with_reducible apply bs_alloc) | (with_reducible apply bs_below; (case hb => with_reducible assumption); (case hB => first | omega | (simp; omega) | (simp; done)))))
    case hb => (repeat (first | (with_reducible assumption) | with_reducible exact be_refl _ | (with_reducible refine be_set ?_ (by dsimp only; omega)) | (with_reducible apply be_drew) | (with_reducible apply be_drewN) | (with_reducible refine be_alloc ?_ (by first | omega | (simp; omega) | simp)) | (with_reducible refine be_call (by with_reducible assumption) (by first | omega | (simp; omega) | simp) ?_)))
    intro w2_ k2_0 k2_1 k2_2 k2_3 HB2
    try simp only [List.setIfInBounds_toArray, List.set_cons_zero, List.set_cons_succ] at k2_0 k2_1 k2_2 k2_3
    clear g0 g1 g2 g3 g4 g5 g6 fz hb1 hc1 hf1 y1
    obtain ⟨c2_0_0, c2_0_1, c2_0_2, c2_0_3, c2_0_4, c2_0_5, c2_0_6, f2_0⟩ := cells7 k2_0
    have s2_0 := bs_lt k2_0
    obtain ⟨c2_1_0, c2_1_1, c2_1_2, c2_1_3, f2_1⟩ := cells4 k2_1
    have s2_1 := bs_lt k2_1
    obtain ⟨c2_2_0, c2_2_1, c2_2_2, c2_2_3, f2_2⟩ := cells4 k2_2
    have s2_2 := bs_lt k2_2
    obtain ⟨c2_3_0, c2_3_1, c2_3_2, c2_3_3, f2_3⟩ := cells4 k2_3
    have s2_3 := bs_lt k2_3
    go_wp2_with (go_at_call 8; refine (polyptychlaw9_awake.calls true _ rfl).mono ?_; rintro e v2 ⟨rfl, hb2⟩)
    go_ret
    exact ⟨rfl, by (repeat (first | (with_reducible assumption) | with_reducible exact be_refl _ | (with_reducible refine be_set ?_ (by dsimp only; omega)) | (with_reducible apply be_drew) | (with_reducible apply be_drewN) | (with_reducible refine be_alloc ?_ (by first | omega | (simp; omega) | simp)) | (with_reducible refine be_call (by with_reducible assumption) (by first | omega | (simp; omega) | simp) ?_)))⟩
  · have H1 := hide cut2
    have hk1 : (Go.bits .and .i64 n 255).tmod 15 = 2 := hk
    clear hk
    have g0 := (bs_cell k1_0 14).trans rfl
    have g1 := (bs_cell k1_0 15).trans rfl
    have g2 := (bs_cell k1_0 16).trans rfl
    have g3 := (bs_cell k1_0 17).trans rfl
    have g4 := (bs_cell k1_0 18).trans rfl
    have g5 := (bs_cell k1_0 19).trans rfl
    have g6 := (bs_cell k1_0 20).trans rfl
    clear k1_0
    go_upto_region 5 with (go_at_call 7; refine (rect_Cut.calls _ _ _ _ _ _ _ _ _ _ _ _ _ _ _ _ _ _ _ _ H1.out).mono ?_; rintro e v1 ⟨rfl, hb1⟩; obtain ⟨hc1, hf1⟩ := be_known hb1; have y1 := hb1.size; (try simp only [World.size_alloc] at y1))
    have z0 : w.heap.size + 1 < w1_.heap.size := s1_0
    have z1 : w1_.heap.size < v1.heap.size := by first | omega | (simp at y1; omega)
    apply wp_letter4 (w.heap.size) w (w1_.heap.size) 24 (v1.heap.size) 23 (v1.heap.size + 1) 23 (v1.heap.size + 1 + 1) 23
    case h0 => (repeat (first | (with_reducible assumption) | (with_reducible apply bs_same) | (with_reducible apply bs_far; case hp => (dsimp only; omega)) | (with_reducible apply bs_drew) | (with_reducible apply bs_drewN) | (with_reducible apply bs_new; (first | (with_reducible rfl) | (simp; done))) | (with_reducible apply bs_alloc) | (with_reducible apply bs_below; (case hb => with_reducible assumption); (case hB => first | omega | (simp; omega) | (simp; done)))))
    case h1 => (repeat (first | (with_reducible assumption) | (with_reducible apply bs_same) | (with_reducible apply bs_far; case hp => (dsimp only; omega)) | (with_reducible apply bs_drew) | (with_reducible apply bs_drewN) | (with_reducible apply bs_new; (first | (with_reducible rfl) | (simp; done))) | (with_reducible apply bs_alloc) | (with_reducible apply bs_below; (case hb => with_reducible assumption); (case hB => first | omega | (simp; omega) | (simp; done)))))
    case h2 => (repeat (first | (with_reducible assumption) | (with_reducible apply bs_same) | (with_reducible apply bs_far; case hp => (dsimp only; omega)) | (with_reducible apply bs_drew) | (with_reducible apply bs_drewN) | (with_reducible apply bs_new; (first | (with_reducible rfl) | (simp; done))) | (with_reducible apply bs_alloc) | (with_reducible apply bs_below; (case hb => with_reducible assumption); (case hB => first | omega | (simp; omega) | (simp; done)))))
    case h3 => (repeat (first | (with_reducible assumption) | (with_reducible apply bs_same) | (with_reducible apply bs_far; case hp => (dsimp only; omega)) | (with_reducible apply bs_drew) | (with_reducible apply bs_drewN) | (with_reducible apply bs_new; (first | (with_reducible rfl) | (simp; done))) | (with_reducible apply bs_alloc) | (with_reducible apply bs_below; (case hb => with_reducible assumption); (case hB => first | omega | (simp; omega) | (simp; done)))))
    case hb => (repeat (first | (with_reducible assumption) | with_reducible exact be_refl _ | (with_reducible refine be_set ?_ (by dsimp only; omega)) | (with_reducible apply be_drew) | (with_reducible apply be_drewN) | (with_reducible refine be_alloc ?_ (by first | omega | (simp; omega) | simp)) | (with_reducible refine be_call (by with_reducible assumption) (by first | omega | (simp; omega) | simp) ?_)))
    intro w3_ k3_0 k3_1 k3_2 k3_3 HB3
    try simp only [List.setIfInBounds_toArray, List.set_cons_zero, List.set_cons_succ] at k3_0 k3_1 k3_2 k3_3
    clear g0 g1 g2 g3 g4 g5 g6 fz hb1 hc1 hf1 y1
    obtain ⟨c3_0_0, c3_0_1, c3_0_2, c3_0_3, c3_0_4, c3_0_5, c3_0_6, f3_0⟩ := cells7 k3_0
    have s3_0 := bs_lt k3_0
    obtain ⟨c3_1_0, c3_1_1, c3_1_2, c3_1_3, f3_1⟩ := cells4 k3_1
    have s3_1 := bs_lt k3_1
    obtain ⟨c3_2_0, c3_2_1, c3_2_2, c3_2_3, f3_2⟩ := cells4 k3_2
    have s3_2 := bs_lt k3_2
    obtain ⟨c3_3_0, c3_3_1, c3_3_2, c3_3_3, f3_3⟩ := cells4 k3_3
    have s3_3 := bs_lt k3_3
    go_wp2_with (go_at_call 8; refine (polyptychlaw9_awake.calls true _ rfl).mono ?_; rintro e v2 ⟨rfl, hb2⟩)
    go_ret
    exact ⟨rfl, by (repeat (first | (with_reducible assumption) | with_reducible exact be_refl _ | (with_reducible refine be_set ?_ (by dsimp only; omega)) | (with_reducible apply be_drew) | (with_reducible apply be_drewN) | (with_reducible refine be_alloc ?_ (by first | omega | (simp; omega) | simp)) | (with_reducible refine be_call (by with_reducible assumption) (by first | omega | (simp; omega) | simp) ?_)))⟩
  · have H1 := hide cut3
    have hk1 : (Go.bits .and .i64 n 255).tmod 15 = 3 := hk
    clear hk
    have g0 := (bs_cell k1_0 21).trans rfl
    have g1 := (bs_cell k1_0 22).trans rfl
    have g2 := (bs_cell k1_0 23).trans rfl
    have g3 := (bs_cell k1_0 24).trans rfl
    have g4 := (bs_cell k1_0 25).trans rfl
    have g5 := (bs_cell k1_0 26).trans rfl
    have g6 := (bs_cell k1_0 27).trans rfl
    clear k1_0
    go_upto_region 5 with (go_at_call 7; refine (rect_Cut.calls _ _ _ _ _ _ _ _ _ _ _ _ _ _ _ _ _ _ _ _ H1.out).mono ?_; rintro e v1 ⟨rfl, hb1⟩; obtain ⟨hc1, hf1⟩ := be_known hb1; have y1 := hb1.size; (try simp only [World.size_alloc] at y1))
    have z0 : w.heap.size + 1 < w1_.heap.size := s1_0
    have z1 : w1_.heap.size < v1.heap.size := by first | omega | (simp at y1; omega)
    apply wp_letter4 (w.heap.size) w (w1_.heap.size) 24 (v1.heap.size) 23 (v1.heap.size + 1) 23 (v1.heap.size + 1 + 1) 23
    case h0 => (repeat (first | (with_reducible assumption) | (with_reducible apply bs_same) | (with_reducible apply bs_far; case hp => (dsimp only; omega)) | (with_reducible apply bs_drew) | (with_reducible apply bs_drewN) | (with_reducible apply bs_new; (first | (with_reducible rfl) | (simp; done))) | (with_reducible apply bs_alloc) | (with_reducible apply bs_below; (case hb => with_reducible assumption); (case hB => first | omega | (simp; omega) | (simp; done)))))
    case h1 => (repeat (first | (with_reducible assumption) | (with_reducible apply bs_same) | (with_reducible apply bs_far; case hp => (dsimp only; omega)) | (with_reducible apply bs_drew) | (with_reducible apply bs_drewN) | (with_reducible apply bs_new; (first | (with_reducible rfl) | (simp; done))) | (with_reducible apply bs_alloc) | (with_reducible apply bs_below; (case hb => with_reducible assumption); (case hB => first | omega | (simp; omega) | (simp; done)))))
    case h2 => (repeat (first | (with_reducible assumption) | (with_reducible apply bs_same) | (with_reducible apply bs_far; case hp => (dsimp only; omega)) | (with_reducible apply bs_drew) | (with_reducible apply bs_drewN) | (with_reducible apply bs_new; (first | (with_reducible rfl) | (simp; done))) | (with_reducible apply bs_alloc) | (with_reducible apply bs_below; (case hb => with_reducible assumption); (case hB => first | omega | (simp; omega) | (simp; done)))))
    case h3 => (repeat (first | (with_reducible assumption) | (with_reducible apply bs_same) | (with_reducible apply bs_far; case hp => (dsimp only; omega)) | (with_reducible apply bs_drew) | (with_reducible apply bs_drewN) | (with_reducible apply bs_new; (first | (with_reducible rfl) | (simp; done))) | (with_reducible apply bs_alloc) | (with_reducible apply bs_below; (case hb => with_reducible assumption); (case hB => first | omega | (simp; omega) | (simp; done)))))
    case hb => (repeat (first | (with_reducible assumption) | with_reducible exact be_refl _ | (with_reducible refine be_set ?_ (by dsimp only; omega)) | (with_reducible apply be_drew) | (with_reducible apply be_drewN) | (with_reducible refine be_alloc ?_ (by first | omega | (simp; omega) | simp)) | (with_reducible refine be_call (by with_reducible assumption) (by first | omega | (simp; omega) | simp) ?_)))
    intro w4_ k4_0 k4_1 k4_2 k4_3 HB4
    try simp only [List.setIfInBounds_toArray, List.set_cons_zero, List.set_cons_succ] at k4_0 k4_1 k4_2 k4_3
    clear g0 g1 g2 g3 g4 g5 g6 fz hb1 hc1 hf1 y1
    obtain ⟨c4_0_0, c4_0_1, c4_0_2, c4_0_3, c4_0_4, c4_0_5, c4_0_6, f4_0⟩ := cells7 k4_0
    have s4_0 := bs_lt k4_0
    obtain ⟨c4_1_0, c4_1_1, c4_1_2, c4_1_3, f4_1⟩ := cells4 k4_1
    have s4_1 := bs_lt k4_1
    obtain ⟨c4_2_0, c4_2_1, c4_2_2, c4_2_3, f4_2⟩ := cells4 k4_2
    have s4_2 := bs_lt k4_2
    obtain ⟨c4_3_0, c4_3_1, c4_3_2, c4_3_3, f4_3⟩ := cells4 k4_3
    have s4_3 := bs_lt k4_3
    go_wp2_with (go_at_call 8; refine (polyptychlaw9_awake.calls true _ rfl).mono ?_; rintro e v2 ⟨rfl, hb2⟩)
    go_ret
    exact ⟨rfl, by (repeat (first | (with_reducible assumption) | with_reducible exact be_refl _ | (with_reducible refine be_set ?_ (by dsimp only; omega)) | (with_reducible apply be_drew) | (with_reducible apply be_drewN) | (with_reducible refine be_alloc ?_ (by first | omega | (simp; omega) | simp)) | (with_reducible refine be_call (by with_reducible assumption) (by first | omega | (simp; omega) | simp) ?_)))⟩
  · have H1 := hide cut4
    have hk1 : (Go.bits .and .i64 n 255).tmod 15 = 4 := hk
    clear hk
    have g0 := (bs_cell k1_0 28).trans rfl
    have g1 := (bs_cell k1_0 29).trans rfl
    have g2 := (bs_cell k1_0 30).trans rfl
    have g3 := (bs_cell k1_0 31).trans rfl
    have g4 := (bs_cell k1_0 32).trans rfl
    have g5 := (bs_cell k1_0 33).trans rfl
    have g6 := (bs_cell k1_0 34).trans rfl
    clear k1_0
    go_upto_region 5 with (go_at_call 7; refine (rect_Cut.calls _ _ _ _ _ _ _ _ _ _ _ _ _ _ _ _ _ _ _ _ H1.out).mono ?_; rintro e v1 ⟨rfl, hb1⟩; obtain ⟨hc1, hf1⟩ := be_known hb1; have y1 := hb1.size; (try simp only [World.size_alloc] at y1))
    have z0 : w.heap.size + 1 < w1_.heap.size := s1_0
    have z1 : w1_.heap.size < v1.heap.size := by first | omega | (simp at y1; omega)
    apply wp_letter4 (w.heap.size) w (w1_.heap.size) 24 (v1.heap.size) 23 (v1.heap.size + 1) 23 (v1.heap.size + 1 + 1) 23
    case h0 => (repeat (first | (with_reducible assumption) | (with_reducible apply bs_same) | (with_reducible apply bs_far; case hp => (dsimp only; omega)) | (with_reducible apply bs_drew) | (with_reducible apply bs_drewN) | (with_reducible apply bs_new; (first | (with_reducible rfl) | (simp; done))) | (with_reducible apply bs_alloc) | (with_reducible apply bs_below; (case hb => with_reducible assumption); (case hB => first | omega | (simp; omega) | (simp; done)))))
    case h1 => (repeat (first | (with_reducible assumption) | (with_reducible apply bs_same) | (with_reducible apply bs_far; case hp => (dsimp only; omega)) | (with_reducible apply bs_drew) | (with_reducible apply bs_drewN) | (with_reducible apply bs_new; (first | (with_reducible rfl) | (simp; done))) | (with_reducible apply bs_alloc) | (with_reducible apply bs_below; (case hb => with_reducible assumption); (case hB => first | omega | (simp; omega) | (simp; done)))))
    case h2 => (repeat (first | (with_reducible assumption) | (with_reducible apply bs_same) | (with_reducible apply bs_far; case hp => (dsimp only; omega)) | (with_reducible apply bs_drew) | (with_reducible apply bs_drewN) | (with_reducible apply bs_new; (first | (with_reducible rfl) | (simp; done))) | (with_reducible apply bs_alloc) | (with_reducible apply bs_below; (case hb => with_reducible assumption); (case hB => first | omega | (simp; omega) | (simp; done)))))
    case h3 => (repeat (first | (with_reducible assumption) | (with_reducible apply bs_same) | (with_reducible apply bs_far; case hp => (dsimp only; omega)) | (with_reducible apply bs_drew) | (with_reducible apply bs_drewN) | (with_reducible apply bs_new; (first | (with_reducible rfl) | (simp; done))) | (with_reducible apply bs_alloc) | (with_reducible apply bs_below; (case hb => with_reducible assumption); (case hB => first | omega | (simp; omega) | (simp; done)))))
    case hb => (repeat (first | (with_reducible assumption) | with_reducible exact be_refl _ | (with_reducible refine be_set ?_ (by dsimp only; omega)) | (with_reducible apply be_drew) | (with_reducible apply be_drewN) | (with_reducible refine be_alloc ?_ (by first | omega | (simp; omega) | simp)) | (with_reducible refine be_call (by with_reducible assumption) (by first | omega | (simp; omega) | simp) ?_)))
    intro w5_ k5_0 k5_1 k5_2 k5_3 HB5
    try simp only [List.setIfInBounds_toArray, List.set_cons_zero, List.set_cons_succ] at k5_0 k5_1 k5_2 k5_3
    clear g0 g1 g2 g3 g4 g5 g6 fz hb1 hc1 hf1 y1
    obtain ⟨c5_0_0, c5_0_1, c5_0_2, c5_0_3, c5_0_4, c5_0_5, c5_0_6, f5_0⟩ := cells7 k5_0
    have s5_0 := bs_lt k5_0
    obtain ⟨c5_1_0, c5_1_1, c5_1_2, c5_1_3, f5_1⟩ := cells4 k5_1
    have s5_1 := bs_lt k5_1
    obtain ⟨c5_2_0, c5_2_1, c5_2_2, c5_2_3, f5_2⟩ := cells4 k5_2
    have s5_2 := bs_lt k5_2
    obtain ⟨c5_3_0, c5_3_1, c5_3_2, c5_3_3, f5_3⟩ := cells4 k5_3
    have s5_3 := bs_lt k5_3
    go_wp2_with (go_at_call 8; refine (polyptychlaw9_awake.calls true _ rfl).mono ?_; rintro e v2 ⟨rfl, hb2⟩)
    go_ret
    exact ⟨rfl, by (repeat (first | (with_reducible assumption) | with_reducible exact be_refl _ | (with_reducible refine be_set ?_ (by dsimp only; omega)) | (with_reducible apply be_drew) | (with_reducible apply be_drewN) | (with_reducible refine be_alloc ?_ (by first | omega | (simp; omega) | simp)) | (with_reducible refine be_call (by with_reducible assumption) (by first | omega | (simp; omega) | simp) ?_)))⟩
  · have H1 := hide cut5
    have hk1 : (Go.bits .and .i64 n 255).tmod 15 = 5 := hk
    clear hk
    have g0 := (bs_cell k1_0 35).trans rfl
    have g1 := (bs_cell k1_0 36).trans rfl
    have g2 := (bs_cell k1_0 37).trans rfl
    have g3 := (bs_cell k1_0 38).trans rfl
    have g4 := (bs_cell k1_0 39).trans rfl
    have g5 := (bs_cell k1_0 40).trans rfl
    have g6 := (bs_cell k1_0 41).trans rfl
    clear k1_0
    go_upto_region 5 with (go_at_call 7; refine (rect_Cut.calls _ _ _ _ _ _ _ _ _ _ _ _ _ _ _ _ _ _ _ _ H1.out).mono ?_; rintro e v1 ⟨rfl, hb1⟩; obtain ⟨hc1, hf1⟩ := be_known hb1; have y1 := hb1.size; (try simp only [World.size_alloc] at y1))
    have z0 : w.heap.size + 1 < w1_.heap.size := s1_0
    have z1 : w1_.heap.size < v1.heap.size := by first | omega | (simp at y1; omega)
    apply wp_letter4 (w.heap.size) w (w1_.heap.size) 24 (v1.heap.size) 23 (v1.heap.size + 1) 23 (v1.heap.size + 1 + 1) 23
    case h0 => (repeat (first | (with_reducible assumption) | (with_reducible apply bs_same) | (with_reducible apply bs_far; case hp => (dsimp only; omega)) | (with_reducible apply bs_drew) | (with_reducible apply bs_drewN) | (with_reducible apply bs_new; (first | (with_reducible rfl) | (simp; done))) | (with_reducible apply bs_alloc) | (with_reducible apply bs_below; (case hb => with_reducible assumption); (case hB => first | omega | (simp; omega) | (simp; done)))))
    case h1 => (repeat (first | (with_reducible assumption) | (with_reducible apply bs_same) | (with_reducible apply bs_far; case hp => (dsimp only; omega)) | (with_reducible apply bs_drew) | (with_reducible apply bs_drewN) | (with_reducible apply bs_new; (first | (with_reducible rfl) | (simp; done))) | (with_reducible apply bs_alloc) | (with_reducible apply bs_below; (case hb => with_reducible assumption); (case hB => first | omega | (simp; omega) | (simp; done)))))
    case h2 => (repeat (first | (with_reducible assumption) | (with_reducible apply bs_same) | (with_reducible apply bs_far; case hp => (dsimp only; omega)) | (with_reducible apply bs_drew) | (with_reducible apply bs_drewN) | (with_reducible apply bs_new; (first | (with_reducible rfl) | (simp; done))) | (with_reducible apply bs_alloc) | (with_reducible apply bs_below; (case hb => with_reducible assumption); (case hB => first | omega | (simp; omega) | (simp; done)))))
    case h3 => (repeat (first | (with_reducible assumption) | (with_reducible apply bs_same) | (with_reducible apply bs_far; case hp => (dsimp only; omega)) | (with_reducible apply bs_drew) | (with_reducible apply bs_drewN) | (with_reducible apply bs_new; (first | (with_reducible rfl) | (simp; done))) | (with_reducible apply bs_alloc) | (with_reducible apply bs_below; (case hb => with_reducible assumption); (case hB => first | omega | (simp; omega) | (simp; done)))))
    case hb => (repeat (first | (with_reducible assumption) | with_reducible exact be_refl _ | (with_reducible refine be_set ?_ (by dsimp only; omega)) | (with_reducible apply be_drew) | (with_reducible apply be_drewN) | (with_reducible refine be_alloc ?_ (by first | omega | (simp; omega) | simp)) | (with_reducible refine be_call (by with_reducible assumption) (by first | omega | (simp; omega) | simp) ?_)))
    intro w6_ k6_0 k6_1 k6_2 k6_3 HB6
    try simp only [List.setIfInBounds_toArray, List.set_cons_zero, List.set_cons_succ] at k6_0 k6_1 k6_2 k6_3
    clear g0 g1 g2 g3 g4 g5 g6 fz hb1 hc1 hf1 y1
    obtain ⟨c6_0_0, c6_0_1, c6_0_2, c6_0_3, c6_0_4, c6_0_5, c6_0_6, f6_0⟩ := cells7 k6_0
    have s6_0 := bs_lt k6_0
    obtain ⟨c6_1_0, c6_1_1, c6_1_2, c6_1_3, f6_1⟩ := cells4 k6_1
    have s6_1 := bs_lt k6_1
    obtain ⟨c6_2_0, c6_2_1, c6_2_2, c6_2_3, f6_2⟩ := cells4 k6_2
    have s6_2 := bs_lt k6_2
    obtain ⟨c6_3_0, c6_3_1, c6_3_2, c6_3_3, f6_3⟩ := cells4 k6_3
    have s6_3 := bs_lt k6_3
    go_wp2_with (go_at_call 8; refine (polyptychlaw9_awake.calls true _ rfl).mono ?_; rintro e v2 ⟨rfl, hb2⟩)
    go_ret
    exact ⟨rfl, by (repeat (first | (with_reducible assumption) | with_reducible exact be_refl _ | (with_reducible refine be_set ?_ (by dsimp only; omega)) | (with_reducible apply be_drew) | (with_reducible apply be_drewN) | (with_reducible refine be_alloc ?_ (by first | omega | (simp; omega) | simp)) | (with_reducible refine be_call (by with_reducible assumption) (by first | omega | (simp; omega) | simp) ?_)))⟩
  · have H1 := hide cut6
    have hk1 : (Go.bits .and .i64 n 255).tmod 15 = 6 := hk
    clear hk
    have g0 := (bs_cell k1_0 42).trans rfl
    have g1 := (bs_cell k1_0 43).trans rfl
    have g2 := (bs_cell k1_0 44).trans rfl
    have g3 := (bs_cell k1_0 45).trans rfl
    have g4 := (bs_cell k1_0 46).trans rfl
    have g5 := (bs_cell k1_0 47).trans rfl
    have g6 := (bs_cell k1_0 48).trans rfl
    clear k1_0
    go_upto_region 5 with (go_at_call 7; refine (rect_Cut.calls _ _ _ _ _ _ _ _ _ _ _ _ _ _ _ _ _ _ _ _ H1.out).mono ?_; rintro e v1 ⟨rfl, hb1⟩; obtain ⟨hc1, hf1⟩ := be_known hb1; have y1 := hb1.size; (try simp only [World.size_alloc] at y1))
    have z0 : w.heap.size + 1 < w1_.heap.size := s1_0
    have z1 : w1_.heap.size < v1.heap.size := by first | omega | (simp at y1; omega)
    apply wp_letter4 (w.heap.size) w (w1_.heap.size) 24 (v1.heap.size) 23 (v1.heap.size + 1) 23 (v1.heap.size + 1 + 1) 23
    case h0 => (repeat (first | (with_reducible assumption) | (with_reducible apply bs_same) | (with_reducible apply bs_far; case hp => (dsimp only; omega)) | (with_reducible apply bs_drew) | (with_reducible apply bs_drewN) | (with_reducible apply bs_new; (first | (with_reducible rfl) | (simp; done))) | (with_reducible apply bs_alloc) | (with_reducible apply bs_below; (case hb => with_reducible assumption); (case hB => first | omega | (simp; omega) | (simp; done)))))
    case h1 => (repeat (first | (with_reducible assumption) | (with_reducible apply bs_same) | (with_reducible apply bs_far; case hp => (dsimp only; omega)) | (with_reducible apply bs_drew) | (with_reducible apply bs_drewN) | (with_reducible apply bs_new; (first | (with_reducible rfl) | (simp; done))) | (with_reducible apply bs_alloc) | (with_reducible apply bs_below; (case hb => with_reducible assumption); (case hB => first | omega | (simp; omega) | (simp; done)))))
    case h2 => (repeat (first | (with_reducible assumption) | (with_reducible apply bs_same) | (with_reducible apply bs_far; case hp => (dsimp only; omega)) | (with_reducible apply bs_drew) | (with_reducible apply bs_drewN) | (with_reducible apply bs_new; (first | (with_reducible rfl) | (simp; done))) | (with_reducible apply bs_alloc) | (with_reducible apply bs_below; (case hb => with_reducible assumption); (case hB => first | omega | (simp; omega) | (simp; done)))))
    case h3 => (repeat (first | (with_reducible assumption) | (with_reducible apply bs_same) | (with_reducible apply bs_far; case hp => (dsimp only; omega)) | (with_reducible apply bs_drew) | (with_reducible apply bs_drewN) | (with_reducible apply bs_new; (first | (with_reducible rfl) | (simp; done))) | (with_reducible apply bs_alloc) | (with_reducible apply bs_below; (case hb => with_reducible assumption); (case hB => first | omega | (simp; omega) | (simp; done)))))
    case hb => (repeat (first | (with_reducible assumption) | with_reducible exact be_refl _ | (with_reducible refine be_set ?_ (by dsimp only; omega)) | (with_reducible apply be_drew) | (with_reducible apply be_drewN) | (with_reducible refine be_alloc ?_ (by first | omega | (simp; omega) | simp)) | (with_reducible refine be_call (by with_reducible assumption) (by first | omega | (simp; omega) | simp) ?_)))
    intro w7_ k7_0 k7_1 k7_2 k7_3 HB7
    try simp only [List.setIfInBounds_toArray, List.set_cons_zero, List.set_cons_succ] at k7_0 k7_1 k7_2 k7_3
    clear g0 g1 g2 g3 g4 g5 g6 fz hb1 hc1 hf1 y1
    obtain ⟨c7_0_0, c7_0_1, c7_0_2, c7_0_3, c7_0_4, c7_0_5, c7_0_6, f7_0⟩ := cells7 k7_0
    have s7_0 := bs_lt k7_0
    obtain ⟨c7_1_0, c7_1_1, c7_1_2, c7_1_3, f7_1⟩ := cells4 k7_1
    have s7_1 := bs_lt k7_1
    obtain ⟨c7_2_0, c7_2_1, c7_2_2, c7_2_3, f7_2⟩ := cells4 k7_2
    have s7_2 := bs_lt k7_2
    obtain ⟨c7_3_0, c7_3_1, c7_3_2, c7_3_3, f7_3⟩ := cells4 k7_3
    have s7_3 := bs_lt k7_3
    go_wp2_with (go_at_call 8; refine (polyptychlaw9_awake.calls true _ rfl).mono ?_; rintro e v2 ⟨rfl, hb2⟩)
    go_ret
    exact ⟨rfl, by (repeat (first | (with_reducible assumption) | with_reducible exact be_refl _ | (with_reducible refine be_set ?_ (by dsimp only; omega)) | (with_reducible apply be_drew) | (with_reducible apply be_drewN) | (with_reducible refine be_alloc ?_ (by first | omega | (simp; omega) | simp)) | (with_reducible refine be_call (by with_reducible assumption) (by first | omega | (simp; omega) | simp) ?_)))⟩
  · have H1 := hide cut7
    have hk1 : (Go.bits .and .i64 n 255).tmod 15 = 7 := hk
    clear hk
    have g0 := (bs_cell k1_0 49).trans rfl
    have g1 := (bs_cell k1_0 50).trans rfl
    have g2 := (bs_cell k1_0 51).trans rfl
    have g3 := (bs_cell k1_0 52).trans rfl
    have g4 := (bs_cell k1_0 53).trans rfl
    have g5 := (bs_cell k1_0 54).trans rfl
    have g6 := (bs_cell k1_0 55).trans rfl
    clear k1_0
    go_upto_region 5 with (go_at_call 7; refine (rect_Cut.calls _ _ _ _ _ _ _ _ _ _ _ _ _ _ _ _ _ _ _ _ H1.out).mono ?_; rintro e v1 ⟨rfl, hb1⟩; obtain ⟨hc1, hf1⟩ := be_known hb1; have y1 := hb1.size; (try simp only [World.size_alloc] at y1))
    have z0 : w.heap.size + 1 < w1_.heap.size := s1_0
    have z1 : w1_.heap.size < v1.heap.size := by first | omega | (simp at y1; omega)
    apply wp_letter4 (w.heap.size) w (w1_.heap.size) 24 (v1.heap.size) 23 (v1.heap.size + 1) 23 (v1.heap.size + 1 + 1) 23
    case h0 => (repeat (first | (with_reducible assumption) | (with_reducible apply bs_same) | (with_reducible apply bs_far; case hp => (dsimp only; omega)) | (with_reducible apply bs_drew) | (with_reducible apply bs_drewN) | (with_reducible apply bs_new; (first | (with_reducible rfl) | (simp; done))) | (with_reducible apply bs_alloc) | (with_reducible apply bs_below; (case hb => with_reducible assumption); (case hB => first | omega | (simp; omega) | (simp; done)))))
    case h1 => (repeat (first | (with_reducible assumption) | (with_reducible apply bs_same) | (with_reducible apply bs_far; case hp => (dsimp only; omega)) | (with_reducible apply bs_drew) | (with_reducible apply bs_drewN) | (with_reducible apply bs_new; (first | (with_reducible rfl) | (simp; done))) | (with_reducible apply bs_alloc) | (with_reducible apply bs_below; (case hb => with_reducible assumption); (case hB => first | omega | (simp; omega) | (simp; done)))))
    case h2 => (repeat (first | (with_reducible assumption) | (with_reducible apply bs_same) | (with_reducible apply bs_far; case hp => (dsimp only; omega)) | (with_reducible apply bs_drew) | (with_reducible apply bs_drewN) | (with_reducible apply bs_new; (first | (with_reducible rfl) | (simp; done))) | (with_reducible apply bs_alloc) | (with_reducible apply bs_below; (case hb => with_reducible assumption); (case hB => first | omega | (simp; omega) | (simp; done)))))
    case h3 => (repeat (first | (with_reducible assumption) | (with_reducible apply bs_same) | (with_reducible apply bs_far; case hp => (dsimp only; omega)) | (with_reducible apply bs_drew) | (with_reducible apply bs_drewN) | (with_reducible apply bs_new; (first | (with_reducible rfl) | (simp; done))) | (with_reducible apply bs_alloc) | (with_reducible apply bs_below; (case hb => with_reducible assumption); (case hB => first | omega | (simp; omega) | (simp; done)))))
    case hb => (repeat (first | (with_reducible assumption) | with_reducible exact be_refl _ | (with_reducible refine be_set ?_ (by dsimp only; omega)) | (with_reducible apply be_drew) | (with_reducible apply be_drewN) | (with_reducible refine be_alloc ?_ (by first | omega | (simp; omega) | simp)) | (with_reducible refine be_call (by with_reducible assumption) (by first | omega | (simp; omega) | simp) ?_)))
    intro w8_ k8_0 k8_1 k8_2 k8_3 HB8
    try simp only [List.setIfInBounds_toArray, List.set_cons_zero, List.set_cons_succ] at k8_0 k8_1 k8_2 k8_3
    clear g0 g1 g2 g3 g4 g5 g6 fz hb1 hc1 hf1 y1
    obtain ⟨c8_0_0, c8_0_1, c8_0_2, c8_0_3, c8_0_4, c8_0_5, c8_0_6, f8_0⟩ := cells7 k8_0
    have s8_0 := bs_lt k8_0
    obtain ⟨c8_1_0, c8_1_1, c8_1_2, c8_1_3, f8_1⟩ := cells4 k8_1
    have s8_1 := bs_lt k8_1
    obtain ⟨c8_2_0, c8_2_1, c8_2_2, c8_2_3, f8_2⟩ := cells4 k8_2
    have s8_2 := bs_lt k8_2
    obtain ⟨c8_3_0, c8_3_1, c8_3_2, c8_3_3, f8_3⟩ := cells4 k8_3
    have s8_3 := bs_lt k8_3
    go_wp2_with (go_at_call 8; refine (polyptychlaw9_awake.calls true _ rfl).mono ?_; rintro e v2 ⟨rfl, hb2⟩)
    go_ret
    exact ⟨rfl, by (repeat (first | (with_reducible assumption) | with_reducible exact be_refl _ | (with_reducible refine be_set ?_ (by dsimp only; omega)) | (with_reducible apply be_drew) | (with_reducible apply be_drewN) | (with_reducible refine be_alloc ?_ (by first | omega | (simp; omega) | simp)) | (with_reducible refine be_call (by with_reducible assumption) (by first | omega | (simp; omega) | simp) ?_)))⟩
  · have H1 := hide cut8
    have hk1 : (Go.bits .and .i64 n 255).tmod 15 = 8 := hk
    clear hk
    have g0 := (bs_cell k1_0 56).trans rfl
    have g1 := (bs_cell k1_0 57).trans rfl
    have g2 := (bs_cell k1_0 58).trans rfl
    have g3 := (bs_cell k1_0 59).trans rfl
    have g4 := (bs_cell k1_0 60).trans rfl
    have g5 := (bs_cell k1_0 61).trans rfl
    have g6 := (bs_cell k1_0 62).trans rfl
    clear k1_0
    go_upto_region 5 with (go_at_call 7; refine (rect_Cut.calls _ _ _ _ _ _ _ _ _ _ _ _ _ _ _ _ _ _ _ _ H1.out).mono ?_; rintro e v1 ⟨rfl, hb1⟩; obtain ⟨hc1, hf1⟩ := be_known hb1; have y1 := hb1.size; (try simp only [World.size_alloc] at y1))
    have z0 : w.heap.size + 1 < w1_.heap.size := s1_0
    have z1 : w1_.heap.size < v1.heap.size := by first | omega | (simp at y1; omega)
    apply wp_letter4 (w.heap.size) w (w1_.heap.size) 24 (v1.heap.size) 23 (v1.heap.size + 1) 23 (v1.heap.size + 1 + 1) 23
    case h0 => (repeat (first | (with_reducible assumption) | (with_reducible apply bs_same) | (with_reducible apply bs_far; case hp => (dsimp only; omega)) | (with_reducible apply bs_drew) | (with_reducible apply bs_drewN) | (with_reducible apply bs_new; (first | (with_reducible rfl) | (simp; done))) | (with_reducible apply bs_alloc) | (with_reducible apply bs_below; (case hb => with_reducible assumption); (case hB => first | omega | (simp; omega) | (simp; done)))))
    case h1 => (repeat (first | (with_reducible assumption) | (with_reducible apply bs_same) | (with_reducible apply bs_far; case hp => (dsimp only; omega)) | (with_reducible apply bs_drew) | (with_reducible apply bs_drewN) | (with_reducible apply bs_new; (first | (with_reducible rfl) | (simp; done))) | (with_reducible apply bs_alloc) | (with_reducible apply bs_below; (case hb => with_reducible assumption); (case hB => first | omega | (simp; omega) | (simp; done)))))
    case h2 => (repeat (first | (with_reducible assumption) | (with_reducible apply bs_same) | (with_reducible apply bs_far; case hp => (dsimp only; omega)) | (with_reducible apply bs_drew) | (with_reducible apply bs_drewN) | (with_reducible apply bs_new; (first | (with_reducible rfl) | (simp; done))) | (with_reducible apply bs_alloc) | (with_reducible apply bs_below; (case hb => with_reducible assumption); (case hB => first | omega | (simp; omega) | (simp; done)))))
    case h3 => (repeat (first | (with_reducible assumption) | (with_reducible apply bs_same) | (with_reducible apply bs_far; case hp => (dsimp only; omega)) | (with_reducible apply bs_drew) | (with_reducible apply bs_drewN) | (with_reducible apply bs_new; (first | (with_reducible rfl) | (simp; done))) | (with_reducible apply bs_alloc) | (with_reducible apply bs_below; (case hb => with_reducible assumption); (case hB => first | omega | (simp; omega) | (simp; done)))))
    case hb => (repeat (first | (with_reducible assumption) | with_reducible exact be_refl _ | (with_reducible refine be_set ?_ (by dsimp only; omega)) | (with_reducible apply be_drew) | (with_reducible apply be_drewN) | (with_reducible refine be_alloc ?_ (by first | omega | (simp; omega) | simp)) | (with_reducible refine be_call (by with_reducible assumption) (by first | omega | (simp; omega) | simp) ?_)))
    intro w9_ k9_0 k9_1 k9_2 k9_3 HB9
    try simp only [List.setIfInBounds_toArray, List.set_cons_zero, List.set_cons_succ] at k9_0 k9_1 k9_2 k9_3
    clear g0 g1 g2 g3 g4 g5 g6 fz hb1 hc1 hf1 y1
    obtain ⟨c9_0_0, c9_0_1, c9_0_2, c9_0_3, c9_0_4, c9_0_5, c9_0_6, f9_0⟩ := cells7 k9_0
    have s9_0 := bs_lt k9_0
    obtain ⟨c9_1_0, c9_1_1, c9_1_2, c9_1_3, f9_1⟩ := cells4 k9_1
    have s9_1 := bs_lt k9_1
    obtain ⟨c9_2_0, c9_2_1, c9_2_2, c9_2_3, f9_2⟩ := cells4 k9_2
    have s9_2 := bs_lt k9_2
    obtain ⟨c9_3_0, c9_3_1, c9_3_2, c9_3_3, f9_3⟩ := cells4 k9_3
    have s9_3 := bs_lt k9_3
    go_wp2_with (go_at_call 8; refine (polyptychlaw9_awake.calls true _ rfl).mono ?_; rintro e v2 ⟨rfl, hb2⟩)
    go_ret
    exact ⟨rfl, by (repeat (first | (with_reducible assumption) | with_reducible exact be_refl _ | (with_reducible refine be_set ?_ (by dsimp only; omega)) | (with_reducible apply be_drew) | (with_reducible apply be_drewN) | (with_reducible refine be_alloc ?_ (by first | omega | (simp; omega) | simp)) | (with_reducible refine be_call (by with_reducible assumption) (by first | omega | (simp; omega) | simp) ?_)))⟩
  · have H1 := hide cut9
    have hk1 : (Go.bits .and .i64 n 255).tmod 15 = 9 := hk
    clear hk
    have g0 := (bs_cell k1_0 63).trans rfl
    have g1 := (bs_cell k1_0 64).trans rfl
    have g2 := (bs_cell k1_0 65).trans rfl
    have g3 := (bs_cell k1_0 66).trans rfl
    have g4 := (bs_cell k1_0 67).trans rfl
    have g5 := (bs_cell k1_0 68).trans rfl
    have g6 := (bs_cell k1_0 69).trans rfl
    clear k1_0
    go_upto_region 5 with (go_at_call 7; refine (rect_Cut.calls _ _ _ _ _ _ _ _ _ _ _ _ _ _ _ _ _ _ _ _ H1.out).mono ?_; rintro e v1 ⟨rfl, hb1⟩; obtain ⟨hc1, hf1⟩ := be_known hb1; have y1 := hb1.size; (try simp only [World.size_alloc] at y1))
    have z0 : w.heap.size + 1 < w1_.heap.size := s1_0
    have z1 : w1_.heap.size < v1.heap.size := by first | omega | (simp at y1; omega)
    apply wp_letter4 (w.heap.size) w (w1_.heap.size) 24 (v1.heap.size) 23 (v1.heap.size + 1) 23 (v1.heap.size + 1 + 1) 23
    case h0 => (repeat (first | (with_reducible assumption) | (with_reducible apply bs_same) | (with_reducible apply bs_far; case hp => (dsimp only; omega)) | (with_reducible apply bs_drew) | (with_reducible apply bs_drewN) | (with_reducible apply bs_new; (first | (with_reducible rfl) | (simp; done))) | (with_reducible apply bs_alloc) | (with_reducible apply bs_below; (case hb => with_reducible assumption); (case hB => first | omega | (simp; omega) | (simp; done)))))
    case h1 => (repeat (first | (with_reducible assumption) | (with_reducible apply bs_same) | (with_reducible apply bs_far; case hp => (dsimp only; omega)) | (with_reducible apply bs_drew) | (with_reducible apply bs_drewN) | (with_reducible apply bs_new; (first | (with_reducible rfl) | (simp; done))) | (with_reducible apply bs_alloc) | (with_reducible apply bs_below; (case hb => with_reducible assumption); (case hB => first | omega | (simp; omega) | (simp; done)))))
    case h2 => (repeat (first | (with_reducible assumption) | (with_reducible apply bs_same) | (with_reducible apply bs_far; case hp => (dsimp only; omega)) | (with_reducible apply bs_drew) | (with_reducible apply bs_drewN) | (with_reducible apply bs_new; (first | (with_reducible rfl) | (simp; done))) | (with_reducible apply bs_alloc) | (with_reducible apply bs_below; (case hb => with_reducible assumption); (case hB => first | omega | (simp; omega) | (simp; done)))))
    case h3 => (repeat (first | (with_reducible assumption) | (with_reducible apply bs_same) | (with_reducible apply bs_far; case hp => (dsimp only; omega)) | (with_reducible apply bs_drew) | (with_reducible apply bs_drewN) | (with_reducible apply bs_new; (first | (with_reducible rfl) | (simp; done))) | (with_reducible apply bs_alloc) | (with_reducible apply bs_below; (case hb => with_reducible assumption); (case hB => first | omega | (simp; omega) | (simp; done)))))
    case hb => (repeat (first | (with_reducible assumption) | with_reducible exact be_refl _ | (with_reducible refine be_set ?_ (by dsimp only; omega)) | (with_reducible apply be_drew) | (with_reducible apply be_drewN) | (with_reducible refine be_alloc ?_ (by first | omega | (simp; omega) | simp)) | (with_reducible refine be_call (by with_reducible assumption) (by first | omega | (simp; omega) | simp) ?_)))
    intro w10_ k10_0 k10_1 k10_2 k10_3 HB10
    try simp only [List.setIfInBounds_toArray, List.set_cons_zero, List.set_cons_succ] at k10_0 k10_1 k10_2 k10_3
    clear g0 g1 g2 g3 g4 g5 g6 fz hb1 hc1 hf1 y1
    obtain ⟨c10_0_0, c10_0_1, c10_0_2, c10_0_3, c10_0_4, c10_0_5, c10_0_6, f10_0⟩ := cells7 k10_0
    have s10_0 := bs_lt k10_0
    obtain ⟨c10_1_0, c10_1_1, c10_1_2, c10_1_3, f10_1⟩ := cells4 k10_1
    have s10_1 := bs_lt k10_1
    obtain ⟨c10_2_0, c10_2_1, c10_2_2, c10_2_3, f10_2⟩ := cells4 k10_2
    have s10_2 := bs_lt k10_2
    obtain ⟨c10_3_0, c10_3_1, c10_3_2, c10_3_3, f10_3⟩ := cells4 k10_3
    have s10_3 := bs_lt k10_3
    go_wp2_with (go_at_call 8; refine (polyptychlaw9_awake.calls true _ rfl).mono ?_; rintro e v2 ⟨rfl, hb2⟩)
    go_ret
    exact ⟨rfl, by (repeat (first | (with_reducible assumption) | with_reducible exact be_refl _ | (with_reducible refine be_set ?_ (by dsimp only; omega)) | (with_reducible apply be_drew) | (with_reducible apply be_drewN) | (with_reducible refine be_alloc ?_ (by first | omega | (simp; omega) | simp)) | (with_reducible refine be_call (by with_reducible assumption) (by first | omega | (simp; omega) | simp) ?_)))⟩
  · have H1 := hide cut10
    have hk1 : (Go.bits .and .i64 n 255).tmod 15 = 10 := hk
    clear hk
    have g0 := (bs_cell k1_0 70).trans rfl
    have g1 := (bs_cell k1_0 71).trans rfl
    have g2 := (bs_cell k1_0 72).trans rfl
    have g3 := (bs_cell k1_0 73).trans rfl
    have g4 := (bs_cell k1_0 74).trans rfl
    have g5 := (bs_cell k1_0 75).trans rfl
    have g6 := (bs_cell k1_0 76).trans rfl
    clear k1_0
    go_upto_region 5 with (go_at_call 7; refine (rect_Cut.calls _ _ _ _ _ _ _ _ _ _ _ _ _ _ _ _ _ _ _ _ H1.out).mono ?_; rintro e v1 ⟨rfl, hb1⟩; obtain ⟨hc1, hf1⟩ := be_known hb1; have y1 := hb1.size; (try simp only [World.size_alloc] at y1))
    have z0 : w.heap.size + 1 < w1_.heap.size := s1_0
    have z1 : w1_.heap.size < v1.heap.size := by first | omega | (simp at y1; omega)
    apply wp_letter4 (w.heap.size) w (w1_.heap.size) 24 (v1.heap.size) 23 (v1.heap.size + 1) 23 (v1.heap.size + 1 + 1) 23
    case h0 => (repeat (first | (with_reducible assumption) | (with_reducible apply bs_same) | (with_reducible apply bs_far; case hp => (dsimp only; omega)) | (with_reducible apply bs_drew) | (with_reducible apply bs_drewN) | (with_reducible apply bs_new; (first | (with_reducible rfl) | (simp; done))) | (with_reducible apply bs_alloc) | (with_reducible apply bs_below; (case hb => with_reducible assumption); (case hB => first | omega | (simp; omega) | (simp; done)))))
    case h1 => (repeat (first | (with_reducible assumption) | (with_reducible apply bs_same) | (with_reducible apply bs_far; case hp => (dsimp only; omega)) | (with_reducible apply bs_drew) | (with_reducible apply bs_drewN) | (with_reducible apply bs_new; (first | (with_reducible rfl) | (simp; done))) | (with_reducible apply bs_alloc) | (with_reducible apply bs_below; (case hb => with_reducible assumption); (case hB => first | omega | (simp; omega) | (simp; done)))))
    case h2 => (repeat (first | (with_reducible assumption) | (with_reducible apply bs_same) | (with_reducible apply bs_far; case hp => (dsimp only; omega)) | (with_reducible apply bs_drew) | (with_reducible apply bs_drewN) | (with_reducible apply bs_new; (first | (with_reducible rfl) | (simp; done))) | (with_reducible apply bs_alloc) | (with_reducible apply bs_below; (case hb => with_reducible assumption); (case hB => first | omega | (simp; omega) | (simp; done)))))
    case h3 => (repeat (first | (with_reducible assumption) | (with_reducible apply bs_same) | (with_reducible apply bs_far; case hp => (dsimp only; omega)) | (with_reducible apply bs_drew) | (with_reducible apply bs_drewN) | (with_reducible apply bs_new; (first | (with_reducible rfl) | (simp; done))) | (with_reducible apply bs_alloc) | (with_reducible apply bs_below; (case hb => with_reducible assumption); (case hB => first | omega | (simp; omega) | (simp; done)))))
    case hb => (repeat (first | (with_reducible assumption) | with_reducible exact be_refl _ | (with_reducible refine be_set ?_ (by dsimp only; omega)) | (with_reducible apply be_drew) | (with_reducible apply be_drewN) | (with_reducible refine be_alloc ?_ (by first | omega | (simp; omega) | simp)) | (with_reducible refine be_call (by with_reducible assumption) (by first | omega | (simp; omega) | simp) ?_)))
    intro w11_ k11_0 k11_1 k11_2 k11_3 HB11
    try simp only [List.setIfInBounds_toArray, List.set_cons_zero, List.set_cons_succ] at k11_0 k11_1 k11_2 k11_3
    clear g0 g1 g2 g3 g4 g5 g6 fz hb1 hc1 hf1 y1
    obtain ⟨c11_0_0, c11_0_1, c11_0_2, c11_0_3, c11_0_4, c11_0_5, c11_0_6, f11_0⟩ := cells7 k11_0
    have s11_0 := bs_lt k11_0
    obtain ⟨c11_1_0, c11_1_1, c11_1_2, c11_1_3, f11_1⟩ := cells4 k11_1
    have s11_1 := bs_lt k11_1
    obtain ⟨c11_2_0, c11_2_1, c11_2_2, c11_2_3, f11_2⟩ := cells4 k11_2
    have s11_2 := bs_lt k11_2
    obtain ⟨c11_3_0, c11_3_1, c11_3_2, c11_3_3, f11_3⟩ := cells4 k11_3
    have s11_3 := bs_lt k11_3
    go_wp2_with (go_at_call 8; refine (polyptychlaw9_awake.calls true _ rfl).mono ?_; rintro e v2 ⟨rfl, hb2⟩)
    go_ret
    exact ⟨rfl, by (repeat (first | (with_reducible assumption) | with_reducible exact be_refl _ | (with_reducible refine be_set ?_ (by dsimp only; omega)) | (with_reducible apply be_drew) | (with_reducible apply be_drewN) | (with_reducible refine be_alloc ?_ (by first | omega | (simp; omega) | simp)) | (with_reducible refine be_call (by with_reducible assumption) (by first | omega | (simp; omega) | simp) ?_)))⟩
  · have H1 := hide cut11
    have hk1 : (Go.bits .and .i64 n 255).tmod 15 = 11 := hk
    clear hk
    have g0 := (bs_cell k1_0 77).trans rfl
    have g1 := (bs_cell k1_0 78).trans rfl
    have g2 := (bs_cell k1_0 79).trans rfl
    have g3 := (bs_cell k1_0 80).trans rfl
    have g4 := (bs_cell k1_0 81).trans rfl
    have g5 := (bs_cell k1_0 82).trans rfl
    have g6 := (bs_cell k1_0 83).trans rfl
    clear k1_0
    go_upto_region 5 with (go_at_call 7; refine (rect_Cut.calls _ _ _ _ _ _ _ _ _ _ _ _ _ _ _ _ _ _ _ _ H1.out).mono ?_; rintro e v1 ⟨rfl, hb1⟩; obtain ⟨hc1, hf1⟩ := be_known hb1; have y1 := hb1.size; (try simp only [World.size_alloc] at y1))
    have z0 : w.heap.size + 1 < w1_.heap.size := s1_0
    have z1 : w1_.heap.size < v1.heap.size := by first | omega | (simp at y1; omega)
    apply wp_letter4 (w.heap.size) w (w1_.heap.size) 24 (v1.heap.size) 23 (v1.heap.size + 1) 23 (v1.heap.size + 1 + 1) 23
    case h0 => (repeat (first | (with_reducible assumption) | (with_reducible apply bs_same) | (with_reducible apply bs_far; case hp => (dsimp only; omega)) | (with_reducible apply bs_drew) | (with_reducible apply bs_drewN) | (with_reducible apply bs_new; (first | (with_reducible rfl) | (simp; done))) | (with_reducible apply bs_alloc) | (with_reducible apply bs_below; (case hb => with_reducible assumption); (case hB => first | omega | (simp; omega) | (simp; done)))))
    case h1 => (repeat (first | (with_reducible assumption) | (with_reducible apply bs_same) | (with_reducible apply bs_far; case hp => (dsimp only; omega)) | (with_reducible apply bs_drew) | (with_reducible apply bs_drewN) | (with_reducible apply bs_new; (first | (with_reducible rfl) | (simp; done))) | (with_reducible apply bs_alloc) | (with_reducible apply bs_below; (case hb => with_reducible assumption); (case hB => first | omega | (simp; omega) | (simp; done)))))
    case h2 => (repeat (first | (with_reducible assumption) | (with_reducible apply bs_same) | (with_reducible apply bs_far; case hp => (dsimp only; omega)) | (with_reducible apply bs_drew) | (with_reducible apply bs_drewN) | (with_reducible apply bs_new; (first | (with_reducible rfl) | (simp; done))) | (with_reducible apply bs_alloc) | (with_reducible apply bs_below; (case hb => with_reducible assumption); (case hB => first | omega | (simp; omega) | (simp; done)))))
    case h3 => (repeat (first | (with_reducible assumption) | (with_reducible apply bs_same) | (with_reducible apply bs_far; case hp => (dsimp only; omega)) | (with_reducible apply bs_drew) | (with_reducible apply bs_drewN) | (with_reducible apply bs_new; (first | (with_reducible rfl) | (simp; done))) | (with_reducible apply bs_alloc) | (with_reducible apply bs_below; (case hb => with_reducible assumption); (case hB => first | omega | (simp; omega) | (simp; done)))))
    case hb => (repeat (first | (with_reducible assumption) | with_reducible exact be_refl _ | (with_reducible refine be_set ?_ (by dsimp only; omega)) | (with_reducible apply be_drew) | (with_reducible apply be_drewN) | (with_reducible refine be_alloc ?_ (by first | omega | (simp; omega) | simp)) | (with_reducible refine be_call (by with_reducible assumption) (by first | omega | (simp; omega) | simp) ?_)))
    intro w12_ k12_0 k12_1 k12_2 k12_3 HB12
    try simp only [List.setIfInBounds_toArray, List.set_cons_zero, List.set_cons_succ] at k12_0 k12_1 k12_2 k12_3
    clear g0 g1 g2 g3 g4 g5 g6 fz hb1 hc1 hf1 y1
    obtain ⟨c12_0_0, c12_0_1, c12_0_2, c12_0_3, c12_0_4, c12_0_5, c12_0_6, f12_0⟩ := cells7 k12_0
    have s12_0 := bs_lt k12_0
    obtain ⟨c12_1_0, c12_1_1, c12_1_2, c12_1_3, f12_1⟩ := cells4 k12_1
    have s12_1 := bs_lt k12_1
    obtain ⟨c12_2_0, c12_2_1, c12_2_2, c12_2_3, f12_2⟩ := cells4 k12_2
    have s12_2 := bs_lt k12_2
    obtain ⟨c12_3_0, c12_3_1, c12_3_2, c12_3_3, f12_3⟩ := cells4 k12_3
    have s12_3 := bs_lt k12_3
    go_wp2_with (go_at_call 8; refine (polyptychlaw9_awake.calls true _ rfl).mono ?_; rintro e v2 ⟨rfl, hb2⟩)
    go_ret
    exact ⟨rfl, by (repeat (first | (with_reducible assumption) | with_reducible exact be_refl _ | (with_reducible refine be_set ?_ (by dsimp only; omega)) | (with_reducible apply be_drew) | (with_reducible apply be_drewN) | (with_reducible refine be_alloc ?_ (by first | omega | (simp; omega) | simp)) | (with_reducible refine be_call (by with_reducible assumption) (by first | omega | (simp; omega) | simp) ?_)))⟩
  · have H1 := hide cut12
    have hk1 : (Go.bits .and .i64 n 255).tmod 15 = 12 := hk
    clear hk
    have g0 := (bs_cell k1_0 84).trans rfl
    have g1 := (bs_cell k1_0 85).trans rfl
    have g2 := (bs_cell k1_0 86).trans rfl
    have g3 := (bs_cell k1_0 87).trans rfl
    have g4 := (bs_cell k1_0 88).trans rfl
    have g5 := (bs_cell k1_0 89).trans rfl
    have g6 := (bs_cell k1_0 90).trans rfl
    clear k1_0
    go_upto_region 5 with (go_at_call 7; refine (rect_Cut.calls _ _ _ _ _ _ _ _ _ _ _ _ _ _ _ _ _ _ _ _ H1.out).mono ?_; rintro e v1 ⟨rfl, hb1⟩; obtain ⟨hc1, hf1⟩ := be_known hb1; have y1 := hb1.size; (try simp only [World.size_alloc] at y1))
    have z0 : w.heap.size + 1 < w1_.heap.size := s1_0
    have z1 : w1_.heap.size < v1.heap.size := by first | omega | (simp at y1; omega)
    apply wp_letter4 (w.heap.size) w (w1_.heap.size) 24 (v1.heap.size) 23 (v1.heap.size + 1) 23 (v1.heap.size + 1 + 1) 23
    case h0 => (repeat (first | (with_reducible assumption) | (with_reducible apply bs_same) | (with_reducible apply bs_far; case hp => (dsimp only; omega)) | (with_reducible apply bs_drew) | (with_reducible apply bs_drewN) | (with_reducible apply bs_new; (first | (with_reducible rfl) | (simp; done))) | (with_reducible apply bs_alloc) | (with_reducible apply bs_below; (case hb => with_reducible assumption); (case hB => first | omega | (simp; omega) | (simp; done)))))
    case h1 => (repeat (first | (with_reducible assumption) | (with_reducible apply bs_same) | (with_reducible apply bs_far; case hp => (dsimp only; omega)) | (with_reducible apply bs_drew) | (with_reducible apply bs_drewN) | (with_reducible apply bs_new; (first | (with_reducible rfl) | (simp; done))) | (with_reducible apply bs_alloc) | (with_reducible apply bs_below; (case hb => with_reducible assumption); (case hB => first | omega | (simp; omega) | (simp; done)))))
    case h2 => (repeat (first | (with_reducible assumption) | (with_reducible apply bs_same) | (with_reducible apply bs_far; case hp => (dsimp only; omega)) | (with_reducible apply bs_drew) | (with_reducible apply bs_drewN) | (with_reducible apply bs_new; (first | (with_reducible rfl) | (simp; done))) | (with_reducible apply bs_alloc) | (with_reducible apply bs_below; (case hb => with_reducible assumption); (case hB => first | omega | (simp; omega) | (simp; done)))))
    case h3 => (repeat (first | (with_reducible assumption) | (with_reducible apply bs_same) | (with_reducible apply bs_far; case hp => (dsimp only; omega)) | (with_reducible apply bs_drew) | (with_reducible apply bs_drewN) | (with_reducible apply bs_new; (first | (with_reducible rfl) | (simp; done))) | (with_reducible apply bs_alloc) | (with_reducible apply bs_below; (case hb => with_reducible assumption); (case hB => first | omega | (simp; omega) | (simp; done)))))
    case hb => (repeat (first | (with_reducible assumption) | with_reducible exact be_refl _ | (with_reducible refine be_set ?_ (by dsimp only; omega)) | (with_reducible apply be_drew) | (with_reducible apply be_drewN) | (with_reducible refine be_alloc ?_ (by first | omega | (simp; omega) | simp)) | (with_reducible refine be_call (by with_reducible assumption) (by first | omega | (simp; omega) | simp) ?_)))
    intro w13_ k13_0 k13_1 k13_2 k13_3 HB13
    try simp only [List.setIfInBounds_toArray, List.set_cons_zero, List.set_cons_succ] at k13_0 k13_1 k13_2 k13_3
    clear g0 g1 g2 g3 g4 g5 g6 fz hb1 hc1 hf1 y1
    obtain ⟨c13_0_0, c13_0_1, c13_0_2, c13_0_3, c13_0_4, c13_0_5, c13_0_6, f13_0⟩ := cells7 k13_0
    have s13_0 := bs_lt k13_0
    obtain ⟨c13_1_0, c13_1_1, c13_1_2, c13_1_3, f13_1⟩ := cells4 k13_1
    have s13_1 := bs_lt k13_1
    obtain ⟨c13_2_0, c13_2_1, c13_2_2, c13_2_3, f13_2⟩ := cells4 k13_2
    have s13_2 := bs_lt k13_2
    obtain ⟨c13_3_0, c13_3_1, c13_3_2, c13_3_3, f13_3⟩ := cells4 k13_3
    have s13_3 := bs_lt k13_3
    go_wp2_with (go_at_call 8; refine (polyptychlaw9_awake.calls true _ rfl).mono ?_; rintro e v2 ⟨rfl, hb2⟩)
    go_ret
    exact ⟨rfl, by (repeat (first | (with_reducible assumption) | with_reducible exact be_refl _ | (with_reducible refine be_set ?_ (by dsimp only; omega)) | (with_reducible apply be_drew) | (with_reducible apply be_drewN) | (with_reducible refine be_alloc ?_ (by first | omega | (simp; omega) | simp)) | (with_reducible refine be_call (by with_reducible assumption) (by first | omega | (simp; omega) | simp) ?_)))⟩
  · have H1 := hide cut13
    have hk1 : (Go.bits .and .i64 n 255).tmod 15 = 13 := hk
    clear hk
    have g0 := (bs_cell k1_0 91).trans rfl
    have g1 := (bs_cell k1_0 92).trans rfl
    have g2 := (bs_cell k1_0 93).trans rfl
    have g3 := (bs_cell k1_0 94).trans rfl
    have g4 := (bs_cell k1_0 95).trans rfl
    have g5 := (bs_cell k1_0 96).trans rfl
    have g6 := (bs_cell k1_0 97).trans rfl
    clear k1_0
    go_upto_region 5 with (go_at_call 7; refine (rect_Cut.calls _ _ _ _ _ _ _ _ _ _ _ _ _ _ _ _ _ _ _ _ H1.out).mono ?_; rintro e v1 ⟨rfl, hb1⟩; obtain ⟨hc1, hf1⟩ := be_known hb1; have y1 := hb1.size; (try simp only [World.size_alloc] at y1))
    have z0 : w.heap.size + 1 < w1_.heap.size := s1_0
    have z1 : w1_.heap.size < v1.heap.size := by first | omega | (simp at y1; omega)
    apply wp_letter4 (w.heap.size) w (w1_.heap.size) 24 (v1.heap.size) 23 (v1.heap.size + 1) 23 (v1.heap.size + 1 + 1) 23
    case h0 => (repeat (first | (with_reducible assumption) | (with_reducible apply bs_same) | (with_reducible apply bs_far; case hp => (dsimp only; omega)) | (with_reducible apply bs_drew) | (with_reducible apply bs_drewN) | (with_reducible apply bs_new; (first | (with_reducible rfl) | (simp; done))) | (with_reducible apply bs_alloc) | (with_reducible apply bs_below; (case hb => with_reducible assumption); (case hB => first | omega | (simp; omega) | (simp; done)))))
    case h1 => (repeat (first | (with_reducible assumption) | (with_reducible apply bs_same) | (with_reducible apply bs_far; case hp => (dsimp only; omega)) | (with_reducible apply bs_drew) | (with_reducible apply bs_drewN) | (with_reducible apply bs_new; (first | (with_reducible rfl) | (simp; done))) | (with_reducible apply bs_alloc) | (with_reducible apply bs_below; (case hb => with_reducible assumption); (case hB => first | omega | (simp; omega) | (simp; done)))))
    case h2 => (repeat (first | (with_reducible assumption) | (with_reducible apply bs_same) | (with_reducible apply bs_far; case hp => (dsimp only; omega)) | (with_reducible apply bs_drew) | (with_reducible apply bs_drewN) | (with_reducible apply bs_new; (first | (with_reducible rfl) | (simp; done))) | (with_reducible apply bs_alloc) | (with_reducible apply bs_below; (case hb => with_reducible assumption); (case hB => first | omega | (simp; omega) | (simp; done)))))
    case h3 => (repeat (first | (with_reducible assumption) | (with_reducible apply bs_same) | (with_reducible apply bs_far; case hp => (dsimp only; omega)) | (with_reducible apply bs_drew) | (with_reducible apply bs_drewN) | (with_reducible apply bs_new; (first | (with_reducible rfl) | (simp; done))) | (with_reducible apply bs_alloc) | (with_reducible apply bs_below; (case hb => with_reducible assumption); (case hB => first | omega | (simp; omega) | (simp; done)))))
    case hb => (repeat (first | (with_reducible assumption) | with_reducible exact be_refl _ | (with_reducible refine be_set ?_ (by dsimp only; omega)) | (with_reducible apply be_drew) | (with_reducible apply be_drewN) | (with_reducible refine be_alloc ?_ (by first | omega | (simp; omega) | simp)) | (with_reducible refine be_call (by with_reducible assumption) (by first | omega | (simp; omega) | simp) ?_)))
    intro w14_ k14_0 k14_1 k14_2 k14_3 HB14
    try simp only [List.setIfInBounds_toArray, List.set_cons_zero, List.set_cons_succ] at k14_0 k14_1 k14_2 k14_3
    clear g0 g1 g2 g3 g4 g5 g6 fz hb1 hc1 hf1 y1
    obtain ⟨c14_0_0, c14_0_1, c14_0_2, c14_0_3, c14_0_4, c14_0_5, c14_0_6, f14_0⟩ := cells7 k14_0
    have s14_0 := bs_lt k14_0
    obtain ⟨c14_1_0, c14_1_1, c14_1_2, c14_1_3, f14_1⟩ := cells4 k14_1
    have s14_1 := bs_lt k14_1
    obtain ⟨c14_2_0, c14_2_1, c14_2_2, c14_2_3, f14_2⟩ := cells4 k14_2
    have s14_2 := bs_lt k14_2
    obtain ⟨c14_3_0, c14_3_1, c14_3_2, c14_3_3, f14_3⟩ := cells4 k14_3
    have s14_3 := bs_lt k14_3
    go_wp2_with (go_at_call 8; refine (polyptychlaw9_awake.calls true _ rfl).mono ?_; rintro e v2 ⟨rfl, hb2⟩)
    go_ret
    exact ⟨rfl, by (repeat (first | (with_reducible assumption) | with_reducible exact be_refl _ | (with_reducible refine be_set ?_ (by dsimp only; omega)) | (with_reducible apply be_drew) | (with_reducible apply be_drewN) | (with_reducible refine be_alloc ?_ (by first | omega | (simp; omega) | simp)) | (with_reducible refine be_call (by with_reducible assumption) (by first | omega | (simp; omega) | simp) ?_)))⟩
  · have H1 := hide cut14
    have hk1 : (Go.bits .and .i64 n 255).tmod 15 = 14 := hk
    clear hk
    have g0 := (bs_cell k1_0 98).trans rfl
    have g1 := (bs_cell k1_0 99).trans rfl
    have g2 := (bs_cell k1_0 100).trans rfl
    have g3 := (bs_cell k1_0 101).trans rfl
    have g4 := (bs_cell k1_0 102).trans rfl
    have g5 := (bs_cell k1_0 103).trans rfl
    have g6 := (bs_cell k1_0 104).trans rfl
    clear k1_0
    go_upto_region 5 with (go_at_call 7; refine (rect_Cut.calls _ _ _ _ _ _ _ _ _ _ _ _ _ _ _ _ _ _ _ _ H1.out).mono ?_; rintro e v1 ⟨rfl, hb1⟩; obtain ⟨hc1, hf1⟩ := be_known hb1; have y1 := hb1.size; (try simp only [World.size_alloc] at y1))
    have z0 : w.heap.size + 1 < w1_.heap.size := s1_0
    have z1 : w1_.heap.size < v1.heap.size := by first | omega | (simp at y1; omega)
    apply wp_letter4 (w.heap.size) w (w1_.heap.size) 24 (v1.heap.size) 23 (v1.heap.size + 1) 23 (v1.heap.size + 1 + 1) 23
    case h0 => (repeat (first | (with_reducible assumption) | (with_reducible apply bs_same) | (with_reducible apply bs_far; case hp => (dsimp only; omega)) | (with_reducible apply bs_drew) | (with_reducible apply bs_drewN) | (with_reducible apply bs_new; (first | (with_reducible rfl) | (simp; done))) | (with_reducible apply bs_alloc) | (with_reducible apply bs_below; (case hb => with_reducible assumption); (case hB => first | omega | (simp; omega) | (simp; done)))))
    case h1 => (repeat (first | (with_reducible assumption) | (with_reducible apply bs_same) | (with_reducible apply bs_far; case hp => (dsimp only; omega)) | (with_reducible apply bs_drew) | (with_reducible apply bs_drewN) | (with_reducible apply bs_new; (first | (with_reducible rfl) | (simp; done))) | (with_reducible apply bs_alloc) | (with_reducible apply bs_below; (case hb => with_reducible assumption); (case hB => first | omega | (simp; omega) | (simp; done)))))
    case h2 => (repeat (first | (with_reducible assumption) | (with_reducible apply bs_same) | (with_reducible apply bs_far; case hp => (dsimp only; omega)) | (with_reducible apply bs_drew) | (with_reducible apply bs_drewN) | (with_reducible apply bs_new; (first | (with_reducible rfl) | (simp; done))) | (with_reducible apply bs_alloc) | (with_reducible apply bs_below; (case hb => with_reducible assumption); (case hB => first | omega | (simp; omega) | (simp; done)))))
    case h3 => (repeat (first | (with_reducible assumption) | (with_reducible apply bs_same) | (with_reducible apply bs_far; case hp => (dsimp only; omega)) | (with_reducible apply bs_drew) | (with_reducible apply bs_drewN) | (with_reducible apply bs_new; (first | (with_reducible rfl) | (simp; done))) | (with_reducible apply bs_alloc) | (with_reducible apply bs_below; (case hb => with_reducible assumption); (case hB => first | omega | (simp; omega) | (simp; done)))))
    case hb => (repeat (first | (with_reducible assumption) | with_reducible exact be_refl _ | (with_reducible refine be_set ?_ (by dsimp only; omega)) | (with_reducible apply be_drew) | (with_reducible apply be_drewN) | (with_reducible refine be_alloc ?_ (by first | omega | (simp; omega) | simp)) | (with_reducible refine be_call (by with_reducible assumption) (by first | omega | (simp; omega) | simp) ?_)))
    intro w15_ k15_0 k15_1 k15_2 k15_3 HB15
    try simp only [List.setIfInBounds_toArray, List.set_cons_zero, List.set_cons_succ] at k15_0 k15_1 k15_2 k15_3
    clear g0 g1 g2 g3 g4 g5 g6 fz hb1 hc1 hf1 y1
    obtain ⟨c15_0_0, c15_0_1, c15_0_2, c15_0_3, c15_0_4, c15_0_5, c15_0_6, f15_0⟩ := cells7 k15_0
    have s15_0 := bs_lt k15_0
    obtain ⟨c15_1_0, c15_1_1, c15_1_2, c15_1_3, f15_1⟩ := cells4 k15_1
    have s15_1 := bs_lt k15_1
    obtain ⟨c15_2_0, c15_2_1, c15_2_2, c15_2_3, f15_2⟩ := cells4 k15_2
    have s15_2 := bs_lt k15_2
    obtain ⟨c15_3_0, c15_3_1, c15_3_2, c15_3_3, f15_3⟩ := cells4 k15_3
    have s15_3 := bs_lt k15_3
    go_wp2_with (go_at_call 8; refine (polyptychlaw9_awake.calls true _ rfl).mono ?_; rintro e v2 ⟨rfl, hb2⟩)
    go_ret
    exact ⟨rfl, by (repeat (first | (with_reducible assumption) | with_reducible exact be_refl _ | (with_reducible refine be_set ?_ (by dsimp only; omega)) | (with_reducible apply be_drew) | (with_reducible apply be_drewN) | (with_reducible refine be_alloc ?_ (by first | omega | (simp; omega) | simp)) | (with_reducible refine be_call (by with_reducible assumption) (by first | omega | (simp; omega) | simp) ?_)))⟩
theorem walkR (n : Int) (w : World) (_ : (Lit.int .i64 n).wf = true) :
    Calls Try.prog 3 #[.int .i64 n] w fun e w' => e = .returned (.bool true) ∧ Below w.heap.size w w' := walk n w
end Go.Proofs.Ytlcaepjgjdhmoaa.RectFormsW

