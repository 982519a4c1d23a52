-- Written by a program of this session over the print of the kit (functions marked FOREIGN are proved by this session).
import Derived.Test.YtlcaepjgjdhmoaaPRectTellsx0
import Derived.Test.YtlcaepjgjdhmoaaPRectTellsx1
namespace Go.Proofs.Ytlcaepjgjdhmoaa.PRectTells
open Go.RowKit Go.Proofs.YtlcaepjgjdhmoaaW.PrintWords Go.Proofs.YtlcaepjgjdhmoaaW.PrintLast Go.Proofs.YtlcaepjgjdhmoaaW.PrintMore
attribute [local go_sem] max2_int min2_int max_two min_two max_three min_three max_four min_four   -- for this text's walks alone
set_option linter.unusedVariables false
set_option linter.unusedSimpArgs false

/-! ### polyptychref8_Cut: function 11 (FOREIGN) -/
section
open Go.Proofs.YtlcaepjgjdhmoaaKit
attribute [local go_sem] cell_alloc_some cell_alloc2_some cell_alloc3_some cell_alloc4_some
theorem polyptychref8_none.bounds {x y a b : Int} (h : polyptychref8_none.f x y a b = some false) : (0 ≤ x ∧ x ≤ 1000) ∧ (0 ≤ y ∧ y ≤ 1000) ∧ (0 ≤ a ∧ a ≤ 1000) ∧ 0 ≤ b ∧ b ≤ 1000 := by
  unfold polyptychref8_none.f at h
  repeat' split at h
  all_goals simp at h
  omega
set_option maxHeartbeats 8000000 in
set_option maxRecDepth 100000 in
theorem polyptychref8_Cut.right (x y a b f : Int) (w : World) (hok : polyptychref8_none.f x y a b = some false) (hx1 : 0 ≤ x) (hx2 : x ≤ 1000) (hy1 : 0 ≤ y) (hy2 : y ≤ 1000) (ha1 : 0 ≤ a) (ha2 : a ≤ 1000) (hb1 : 0 ≤ b) (hb2 : b ≤ 1000) (h1 : 1 ≤ f) (h2 : f < a - 1) :
    Calls Try.prog 11 #[.agg #[.int .i64 x, .int .i64 y, .int .i64 a, .int .i64 b], .int .i64 1, .int .i64 f] w fun e w' => e = .returned (.tuple #[.agg #[.int .i64 x, .int .i64 y, .int .i64 f, .int .i64 b], .agg #[.int .i64 (x + f), .int .i64 y, .int .i64 1, .int .i64 b], .agg #[.int .i64 (x + f + 1), .int .i64 y, .int .i64 (a - f - 1), .int .i64 b], .bool true]) ∧ Below w.heap.size w w' := by
  have hh := hide hok; clear hok
  have h3 : ¬ f < 1 := by omega
  have h2' : f ≤ a - 2 := by omega
  go_enter Try.func11, Try.ntmps11
  go_wp2_with (go_at_call 15; refine (polyptychref8_none.calls _ _ _ _ _ _ hh.out).mono ?_; rintro e w1 ⟨rfl, hb⟩)
  apply wp_letter4 (w.heap.size) w (w.heap.size) 23 (w.heap.size + 1) 23 (w.heap.size + 1 + 1) 23 (w.heap.size + 1 + 1 + 1) 23
  case h0 => (repeat (first | (with_reducible assumption) | (with_reducible apply bs_same) | (with_reducible apply bs_far; case hp => (dsimp only; omega)) | (with_reducible apply bs_drew) | (with_reducible apply bs_drewN) | (with_reducible apply bs_new; (first | (with_reducible rfl) | (simp; done))) | (with_reducible apply bs_alloc) | (with_reducible apply bs_below; (case hb => with_reducible assumption); (case hB => first | omega | (simp; omega) | (simp; done)))))
  case h1 => (repeat (first | (with_reducible assumption) | (with_reducible apply bs_same) | (with_reducible apply bs_far; case hp => (dsimp only; omega)) | (with_reducible apply bs_drew) | (with_reducible apply bs_drewN) | (with_reducible apply bs_new; (first | (with_reducible rfl) | (simp; done))) | (with_reducible apply bs_alloc) | (with_reducible apply bs_below; (case hb => with_reducible assumption); (case hB => first | omega | (simp; omega) | (simp; done)))))
  case h2 => (repeat (first | (with_reducible assumption) | (with_reducible apply bs_same) | (with_reducible apply bs_far; case hp => (dsimp only; omega)) | (with_reducible apply bs_drew) | (with_reducible apply bs_drewN) | (with_reducible apply bs_new; (first | (with_reducible rfl) | (simp; done))) | (with_reducible apply bs_alloc) | (with_reducible apply bs_below; (case hb => with_reducible assumption); (case hB => first | omega | (simp; omega) | (simp; done)))))
  case h3 => (repeat (first | (with_reducible assumption) | (with_reducible apply bs_same) | (with_reducible apply bs_far; case hp => (dsimp only; omega)) | (with_reducible apply bs_drew) | (with_reducible apply bs_drewN) | (with_reducible apply bs_new; (first | (with_reducible rfl) | (simp; done))) | (with_reducible apply bs_alloc) | (with_reducible apply bs_below; (case hb => with_reducible assumption); (case hB => first | omega | (simp; omega) | (simp; done)))))
  case hb => (repeat (first | (with_reducible assumption) | with_reducible exact be_refl _ | (with_reducible refine be_set ?_ (by dsimp only; omega)) | (with_reducible apply be_drew) | (with_reducible apply be_drewN) | (with_reducible refine be_alloc ?_ (by first | omega | (simp; omega) | simp)) | (with_reducible refine be_call (by with_reducible assumption) (by first | omega | (simp; omega) | simp) ?_)))
  intro w1_ k1_0 k1_1 k1_2 k1_3 HB1
  try simp only [List.setIfInBounds_toArray, List.set_cons_zero, List.set_cons_succ] at k1_0 k1_1 k1_2 k1_3
  obtain ⟨c1_0_0, c1_0_1, c1_0_2, c1_0_3, f1_0⟩ := cells4 k1_0
  have s1_0 := bs_lt k1_0
  obtain ⟨c1_1_0, c1_1_1, c1_1_2, c1_1_3, f1_1⟩ := cells4 k1_1
  have s1_1 := bs_lt k1_1
  obtain ⟨c1_2_0, c1_2_1, c1_2_2, c1_2_3, f1_2⟩ := cells4 k1_2
  have s1_2 := bs_lt k1_2
  obtain ⟨c1_3_0, c1_3_1, c1_3_2, c1_3_3, f1_3⟩ := cells4 k1_3
  have s1_3 := bs_lt k1_3
  go_cut [10, 11, 12] (fun s10 s11 s12 wx => ∃ g10 g11 g12 : Nat, s10 = .pointer (some ⟨g10, 0, none⟩) ∧ s11 = .pointer (some ⟨g11, 0, none⟩) ∧ s12 = .pointer (some ⟨g12, 0, none⟩) ∧ wx.heap[w.heap.size]? = some (.cells #[.int .i64 x, .int .i64 y, .int .i64 a, .int .i64 b] 23 (0, 0)) ∧ wx.heap[w.heap.size + 1]? = some (.cells #[.int .i64 0, .int .i64 0, .int .i64 0, .int .i64 0] 23 (0, 0)) ∧ wx.heap[w.heap.size + 1 + 1]? = some (.cells #[.int .i64 0, .int .i64 0, .int .i64 0, .int .i64 0] 23 (0, 0)) ∧ wx.heap[w.heap.size + 1 + 1 + 1]? = some (.cells #[.int .i64 0, .int .i64 0, .int .i64 0, .int .i64 0] 23 (0, 0)) ∧ wx.heap[g10]? = some (.cells #[.int .i64 x, .int .i64 y, .int .i64 a, .int .i64 b] 23 (0, 0)) ∧ wx.heap[g11]? = some (.cells #[.int .i64 x, .int .i64 y, .int .i64 a, .int .i64 b] 23 (0, 0)) ∧ wx.heap[g12]? = some (.cells #[.int .i64 x, .int .i64 y, .int .i64 a, .int .i64 b] 23 (0, 0)) ∧ (w.heap.size + 3 < g10 ∧ w.heap.size + 3 < g11 ∧ w.heap.size + 3 < g12 ∧ g10 ≠ g11 ∧ g10 ≠ g12 ∧ g11 ≠ g12) ∧ Below w.heap.size w wx)
  case first =>
    have hz3 : w.heap.size + 3 < w1_.heap.size := by have := bs_lt k1_3; omega
    go_region
    all_goals (go_wp2_with fail; go_meet; refine ⟨_, _, _, rfl, rfl, rfl, ?_, ?_, ?_, ?_, ?_, ?_, ?_, ?_, ?_⟩ <;> first | ((repeat (first | (with_reducible assumption) | (with_reducible apply bs_same) | (with_reducible apply bs_far; case hp => (dsimp only; omega)) | (with_reducible apply bs_drew) | (with_reducible apply bs_drewN) | (with_reducible apply bs_new; (first | (with_reducible rfl) | (simp; done))) | (with_reducible apply bs_alloc) | (with_reducible apply bs_below; (case hb => with_reducible assumption); (case hB => first | omega | (simp; omega) | (simp; done))))); done) | ((repeat (first | (with_reducible assumption) | with_reducible exact be_refl _ | (with_reducible refine be_set ?_ (by dsimp only; omega)) | (with_reducible apply be_drew) | (with_reducible apply be_drewN) | (with_reducible refine be_alloc ?_ (by first | omega | (simp; omega) | simp)) | (with_reducible refine be_call (by with_reducible assumption) (by first | omega | (simp; omega) | simp) ?_))); done) | (refine ⟨?_, ?_, ?_, ?_, ?_, ?_⟩ <;> first | omega | (simp; omega) | (simp; done)))
  case rest =>
    obtain ⟨g10, g11, g12, rfl, rfl, rfl, q0, q1, q2, q3, q10, q11, q12, ⟨m1, m2, m3, m4, m5, m6⟩, HBc⟩ := hcut
    clear k1_0 k1_1 k1_2 k1_3 HB1 c1_0_0 c1_0_1 c1_0_2 c1_0_3 f1_0 s1_0 c1_1_0 c1_1_1 c1_1_2 c1_1_3 f1_1 s1_1 c1_2_0 c1_2_1 c1_2_2 c1_2_3 f1_2 s1_2 c1_3_0 c1_3_1 c1_3_2 c1_3_3 f1_3 s1_3 hb
    obtain ⟨cq0_0, cq0_1, cq0_2, cq0_3, fq0⟩ := cells4 q0; have sq0 := bs_lt q0
    obtain ⟨cq1_0, cq1_1, cq1_2, cq1_3, fq1⟩ := cells4 q1; have sq1 := bs_lt q1
    obtain ⟨cq2_0, cq2_1, cq2_2, cq2_3, fq2⟩ := cells4 q2; have sq2 := bs_lt q2
    obtain ⟨cq3_0, cq3_1, cq3_2, cq3_3, fq3⟩ := cells4 q3; have sq3 := bs_lt q3
    obtain ⟨cq10_0, cq10_1, cq10_2, cq10_3, fq10⟩ := cells4 q10; have sq10 := bs_lt q10
    obtain ⟨cq11_0, cq11_1, cq11_2, cq11_3, fq11⟩ := cells4 q11; have sq11 := bs_lt q11
    obtain ⟨cq12_0, cq12_1, cq12_2, cq12_3, fq12⟩ := cells4 q12; have sq12 := bs_lt q12
    go_wp2
    apply wp_letter7 (w.heap.size) w (w.heap.size) 23 (w.heap.size + 1) 23 (w.heap.size + 1 + 1) 23 (w.heap.size + 1 + 1 + 1) 23 (g10) 23 (g11) 23 (g12) 23
    case h0 => (repeat (first | (with_reducible assumption) | (with_reducible apply bs_same) | (with_reducible apply bs_far; case hp => (dsimp only; omega)) | (with_reducible apply bs_drew) | (with_reducible apply bs_drewN) | (with_reducible apply bs_new; (first | (with_reducible rfl) | (simp; done))) | (with_reducible apply bs_alloc) | (with_reducible apply bs_below; (case hb => with_reducible assumption); (case hB => first | omega | (simp; omega) | (simp; done)))))
    case h1 => (repeat (first | (with_reducible assumption) | (with_reducible apply bs_same) | (with_reducible apply bs_far; case hp => (dsimp only; omega)) | (with_reducible apply bs_drew) | (with_reducible apply bs_drewN) | (with_reducible apply bs_new; (first | (with_reducible rfl) | (simp; done))) | (with_reducible apply bs_alloc) | (with_reducible apply bs_below; (case hb => with_reducible assumption); (case hB => first | omega | (simp; omega) | (simp; done)))))
    case h2 => (repeat (first | (with_reducible assumption) | (with_reducible apply bs_same) | (with_reducible apply bs_far; case hp => (dsimp only; omega)) | (with_reducible apply bs_drew) | (with_reducible apply bs_drewN) | (with_reducible apply bs_new; (first | (with_reducible rfl) | (simp; done))) | (with_reducible apply bs_alloc) | (with_reducible apply bs_below; (case hb => with_reducible assumption); (case hB => first | omega | (simp; omega) | (simp; done)))))
    case h3 => (repeat (first | (with_reducible assumption) | (with_reducible apply bs_same) | (with_reducible apply bs_far; case hp => (dsimp only; omega)) | (with_reducible apply bs_drew) | (with_reducible apply bs_drewN) | (with_reducible apply bs_new; (first | (with_reducible rfl) | (simp; done))) | (with_reducible apply bs_alloc) | (with_reducible apply bs_below; (case hb => with_reducible assumption); (case hB => first | omega | (simp; omega) | (simp; done)))))
    case h4 => (repeat (first | (with_reducible assumption) | (with_reducible apply bs_same) | (with_reducible apply bs_far; case hp => (dsimp only; omega)) | (with_reducible apply bs_drew) | (with_reducible apply bs_drewN) | (with_reducible apply bs_new; (first | (with_reducible rfl) | (simp; done))) | (with_reducible apply bs_alloc) | (with_reducible apply bs_below; (case hb => with_reducible assumption); (case hB => first | omega | (simp; omega) | (simp; done)))))
    case h5 => (repeat (first | (with_reducible assumption) | (with_reducible apply bs_same) | (with_reducible apply bs_far; case hp => (dsimp only; omega)) | (with_reducible apply bs_drew) | (with_reducible apply bs_drewN) | (with_reducible apply bs_new; (first | (with_reducible rfl) | (simp; done))) | (with_reducible apply bs_alloc) | (with_reducible apply bs_below; (case hb => with_reducible assumption); (case hB => first | omega | (simp; omega) | (simp; done)))))
    case h6 => (repeat (first | (with_reducible assumption) | (with_reducible apply bs_same) | (with_reducible apply bs_far; case hp => (dsimp only; omega)) | (with_reducible apply bs_drew) | (with_reducible apply bs_drewN) | (with_reducible apply bs_new; (first | (with_reducible rfl) | (simp; done))) | (with_reducible apply bs_alloc) | (with_reducible apply bs_below; (case hb => with_reducible assumption); (case hB => first | omega | (simp; omega) | (simp; done)))))
    case hb => (repeat (first | (with_reducible assumption) | with_reducible exact be_refl _ | (with_reducible refine be_set ?_ (by dsimp only; omega)) | (with_reducible apply be_drew) | (with_reducible apply be_drewN) | (with_reducible refine be_alloc ?_ (by first | omega | (simp; omega) | simp)) | (with_reducible refine be_call (by with_reducible assumption) (by first | omega | (simp; omega) | simp) ?_)))
    intro w2_ k2_0 k2_1 k2_2 k2_3 k2_4 k2_5 k2_6 HB2
    try simp only [List.setIfInBounds_toArray, List.set_cons_zero, List.set_cons_succ] at k2_0 k2_1 k2_2 k2_3 k2_4 k2_5 k2_6
    clear cq0_0 cq0_1 cq0_2 cq0_3 fq0 sq0 q0 cq1_0 cq1_1 cq1_2 cq1_3 fq1 sq1 q1 cq2_0 cq2_1 cq2_2 cq2_3 fq2 sq2 q2 cq3_0 cq3_1 cq3_2 cq3_3 fq3 sq3 q3 cq10_0 cq10_1 cq10_2 cq10_3 fq10 sq10 q10 cq11_0 cq11_1 cq11_2 cq11_3 fq11 sq11 q11 cq12_0 cq12_1 cq12_2 cq12_3 fq12 sq12 q12 HBc
    obtain ⟨c2_0_0, c2_0_1, c2_0_2, c2_0_3, f2_0⟩ := cells4 k2_0
    have s2_0 := bs_lt k2_0
    obtain ⟨c2_1_0, c2_1_1, c2_1_2, c2_1_3, f2_1⟩ := cells4 k2_1
    have s2_1 := bs_lt k2_1
    obtain ⟨c2_2_0, c2_2_1, c2_2_2, c2_2_3, f2_2⟩ := cells4 k2_2
    have s2_2 := bs_lt k2_2
    obtain ⟨c2_3_0, c2_3_1, c2_3_2, c2_3_3, f2_3⟩ := cells4 k2_3
    have s2_3 := bs_lt k2_3
    obtain ⟨c2_4_0, c2_4_1, c2_4_2, c2_4_3, f2_4⟩ := cells4 k2_4
    have s2_4 := bs_lt k2_4
    obtain ⟨c2_5_0, c2_5_1, c2_5_2, c2_5_3, f2_5⟩ := cells4 k2_5
    have s2_5 := bs_lt k2_5
    obtain ⟨c2_6_0, c2_6_1, c2_6_2, c2_6_3, f2_6⟩ := cells4 k2_6
    have s2_6 := bs_lt k2_6
    go_region
    go_wp2
    apply wp_letter7 (w.heap.size) w (w.heap.size) 23 (w.heap.size + 1) 23 (w.heap.size + 1 + 1) 23 (w.heap.size + 1 + 1 + 1) 23 (g10) 23 (g11) 23 (g12) 23
    case h0 => (repeat (first | (with_reducible assumption) | (with_reducible apply bs_same) | (with_reducible apply bs_far; case hp => (dsimp only; omega)) | (with_reducible apply bs_drew) | (with_reducible apply bs_drewN) | (with_reducible apply bs_new; (first | (with_reducible rfl) | (simp; done))) | (with_reducible apply bs_alloc) | (with_reducible apply bs_below; (case hb => with_reducible assumption); (case hB => first | omega | (simp; omega) | (simp; done)))))
    case h1 => (repeat (first | (with_reducible assumption) | (with_reducible apply bs_same) | (with_reducible apply bs_far; case hp => (dsimp only; omega)) | (with_reducible apply bs_drew) | (with_reducible apply bs_drewN) | (with_reducible apply bs_new; (first | (with_reducible rfl) | (simp; done))) | (with_reducible apply bs_alloc) | (with_reducible apply bs_below; (case hb => with_reducible assumption); (case hB => first | omega | (simp; omega) | (simp; done)))))
    case h2 => (repeat (first | (with_reducible assumption) | (with_reducible apply bs_same) | (with_reducible apply bs_far; case hp => (dsimp only; omega)) | (with_reducible apply bs_drew) | (with_reducible apply bs_drewN) | (with_reducible apply bs_new; (first | (with_reducible rfl) | (simp; done))) | (with_reducible apply bs_alloc) | (with_reducible apply bs_below; (case hb => with_reducible assumption); (case hB => first | omega | (simp; omega) | (simp; done)))))
    case h3 => (repeat (first | (with_reducible assumption) | (with_reducible apply bs_same) | (with_reducible apply bs_far; case hp => (dsimp only; omega)) | (with_reducible apply bs_drew) | (with_reducible apply bs_drewN) | (with_reducible apply bs_new; (first | (with_reducible rfl) | (simp; done))) | (with_reducible apply bs_alloc) | (with_reducible apply bs_below; (case hb => with_reducible assumption); (case hB => first | omega | (simp; omega) | (simp; done)))))
    case h4 => (repeat (first | (with_reducible assumption) | (with_reducible apply bs_same) | (with_reducible apply bs_far; case hp => (dsimp only; omega)) | (with_reducible apply bs_drew) | (with_reducible apply bs_drewN) | (with_reducible apply bs_new; (first | (with_reducible rfl) | (simp; done))) | (with_reducible apply bs_alloc) | (with_reducible apply bs_below; (case hb => with_reducible assumption); (case hB => first | omega | (simp; omega) | (simp; done)))))
    case h5 => (repeat (first | (with_reducible assumption) | (with_reducible apply bs_same) | (with_reducible apply bs_far; case hp => (dsimp only; omega)) | (with_reducible apply bs_drew) | (with_reducible apply bs_drewN) | (with_reducible apply bs_new; (first | (with_reducible rfl) | (simp; done))) | (with_reducible apply bs_alloc) | (with_reducible apply bs_below; (case hb => with_reducible assumption); (case hB => first | omega | (simp; omega) | (simp; done)))))
    case h6 => (repeat (first | (with_reducible assumption) | (with_reducible apply bs_same) | (with_reducible apply bs_far; case hp => (dsimp only; omega)) | (with_reducible apply bs_drew) | (with_reducible apply bs_drewN) | (with_reducible apply bs_new; (first | (with_reducible rfl) | (simp; done))) | (with_reducible apply bs_alloc) | (with_reducible apply bs_below; (case hb => with_reducible assumption); (case hB => first | omega | (simp; omega) | (simp; done)))))
    case hb => (repeat (first | (with_reducible assumption) | with_reducible exact be_refl _ | (with_reducible refine be_set ?_ (by dsimp only; omega)) | (with_reducible apply be_drew) | (with_reducible apply be_drewN) | (with_reducible refine be_alloc ?_ (by first | omega | (simp; omega) | simp)) | (with_reducible refine be_call (by with_reducible assumption) (by first | omega | (simp; omega) | simp) ?_)))
    intro w3_ k3_0 k3_1 k3_2 k3_3 k3_4 k3_5 k3_6 HB3
    try simp only [List.setIfInBounds_toArray, List.set_cons_zero, List.set_cons_succ] at k3_0 k3_1 k3_2 k3_3 k3_4 k3_5 k3_6
    clear c2_0_0 c2_0_1 c2_0_2 c2_0_3 f2_0 s2_0 c2_1_0 c2_1_1 c2_1_2 c2_1_3 f2_1 s2_1 c2_2_0 c2_2_1 c2_2_2 c2_2_3 f2_2 s2_2 c2_3_0 c2_3_1 c2_3_2 c2_3_3 f2_3 s2_3 c2_4_0 c2_4_1 c2_4_2 c2_4_3 f2_4 s2_4 c2_5_0 c2_5_1 c2_5_2 c2_5_3 f2_5 s2_5 c2_6_0 c2_6_1 c2_6_2 c2_6_3 f2_6 s2_6 k2_0 k2_1 k2_2 k2_3 k2_4 k2_5 k2_6 HB2
    obtain ⟨c3_0_0, c3_0_1, c3_0_2, c3_0_3, f3_0⟩ := cells4 k3_0
    have s3_0 := bs_lt k3_0
    obtain ⟨c3_1_0, c3_1_1, c3_1_2, c3_1_3, f3_1⟩ := cells4 k3_1
    have s3_1 := bs_lt k3_1
    obtain ⟨c3_2_0, c3_2_1, c3_2_2, c3_2_3, f3_2⟩ := cells4 k3_2
    have s3_2 := bs_lt k3_2
    obtain ⟨c3_3_0, c3_3_1, c3_3_2, c3_3_3, f3_3⟩ := cells4 k3_3
    have s3_3 := bs_lt k3_3
    obtain ⟨c3_4_0, c3_4_1, c3_4_2, c3_4_3, f3_4⟩ := cells4 k3_4
    have s3_4 := bs_lt k3_4
    obtain ⟨c3_5_0, c3_5_1, c3_5_2, c3_5_3, f3_5⟩ := cells4 k3_5
    have s3_5 := bs_lt k3_5
    obtain ⟨c3_6_0, c3_6_1, c3_6_2, c3_6_3, f3_6⟩ := cells4 k3_6
    have s3_6 := bs_lt k3_6
    go_region
    go_wp2
    apply wp_letter7 (w.heap.size) w (w.heap.size) 23 (w.heap.size + 1) 23 (w.heap.size + 1 + 1) 23 (w.heap.size + 1 + 1 + 1) 23 (g10) 23 (g11) 23 (g12) 23
    case h0 => (repeat (first | (with_reducible assumption) | (with_reducible apply bs_same) | (with_reducible apply bs_far; case hp => (dsimp only; omega)) | (with_reducible apply bs_drew) | (with_reducible apply bs_drewN) | (with_reducible apply bs_new; (first | (with_reducible rfl) | (simp; done))) | (with_reducible apply bs_alloc) | (with_reducible apply bs_below; (case hb => with_reducible assumption); (case hB => first | omega | (simp; omega) | (simp; done)))))
    case h1 => (repeat (first | (with_reducible assumption) | (with_reducible apply bs_same) | (with_reducible apply bs_far; case hp => (dsimp only; omega)) | (with_reducible apply bs_drew) | (with_reducible apply bs_drewN) | (with_reducible apply bs_new; (first | (with_reducible rfl) | (simp; done))) | (with_reducible apply bs_alloc) | (with_reducible apply bs_below; (case hb => with_reducible assumption); (case hB => first | omega | (simp; omega) | (simp; done)))))
    case h2 => (repeat (first | (with_reducible assumption) | (with_reducible apply bs_same) | (with_reducible apply bs_far; case hp => (dsimp only; omega)) | (with_reducible apply bs_drew) | (with_reducible apply bs_drewN) | (with_reducible apply bs_new; (first | (with_reducible rfl) | (simp; done))) | (with_reducible apply bs_alloc) | (with_reducible apply bs_below; (case hb => with_reducible assumption); (case hB => first | omega | (simp; omega) | (simp; done)))))
    case h3 => (repeat (first | (with_reducible assumption) | (with_reducible apply bs_same) | (with_reducible apply bs_far; case hp => (dsimp only; omega)) | (with_reducible apply bs_drew) | (with_reducible apply bs_drewN) | (with_reducible apply bs_new; (first | (with_reducible rfl) | (simp; done))) | (with_reducible apply bs_alloc) | (with_reducible apply bs_below; (case hb => with_reducible assumption); (case hB => first | omega | (simp; omega) | (simp; done)))))
    case h4 => (repeat (first | (with_reducible assumption) | (with_reducible apply bs_same) | (with_reducible apply bs_far; case hp => (dsimp only; omega)) | (with_reducible apply bs_drew) | (with_reducible apply bs_drewN) | (with_reducible apply bs_new; (first | (with_reducible rfl) | (simp; done))) | (with_reducible apply bs_alloc) | (with_reducible apply bs_below; (case hb => with_reducible assumption); (case hB => first | omega | (simp; omega) | (simp; done)))))
    case h5 => (repeat (first | (with_reducible assumption) | (with_reducible apply bs_same) | (with_reducible apply bs_far; case hp => (dsimp only; omega)) | (with_reducible apply bs_drew) | (with_reducible apply bs_drewN) | (with_reducible apply bs_new; (first | (with_reducible rfl) | (simp; done))) | (with_reducible apply bs_alloc) | (with_reducible apply bs_below; (case hb => with_reducible assumption); (case hB => first | omega | (simp; omega) | (simp; done)))))
    case h6 => (repeat (first | (with_reducible assumption) | (with_reducible apply bs_same) | (with_reducible apply bs_far; case hp => (dsimp only; omega)) | (with_reducible apply bs_drew) | (with_reducible apply bs_drewN) | (with_reducible apply bs_new; (first | (with_reducible rfl) | (simp; done))) | (with_reducible apply bs_alloc) | (with_reducible apply bs_below; (case hb => with_reducible assumption); (case hB => first | omega | (simp; omega) | (simp; done)))))
    case hb => (repeat (first | (with_reducible assumption) | with_reducible exact be_refl _ | (with_reducible refine be_set ?_ (by dsimp only; omega)) | (with_reducible apply be_drew) | (with_reducible apply be_drewN) | (with_reducible refine be_alloc ?_ (by first | omega | (simp; omega) | simp)) | (with_reducible refine be_call (by with_reducible assumption) (by first | omega | (simp; omega) | simp) ?_)))
    intro w4_ k4_0 k4_1 k4_2 k4_3 k4_4 k4_5 k4_6 HB4
    try simp only [List.setIfInBounds_toArray, List.set_cons_zero, List.set_cons_succ] at k4_0 k4_1 k4_2 k4_3 k4_4 k4_5 k4_6
    clear c3_0_0 c3_0_1 c3_0_2 c3_0_3 f3_0 s3_0 c3_1_0 c3_1_1 c3_1_2 c3_1_3 f3_1 s3_1 c3_2_0 c3_2_1 c3_2_2 c3_2_3 f3_2 s3_2 c3_3_0 c3_3_1 c3_3_2 c3_3_3 f3_3 s3_3 c3_4_0 c3_4_1 c3_4_2 c3_4_3 f3_4 s3_4 c3_5_0 c3_5_1 c3_5_2 c3_5_3 f3_5 s3_5 c3_6_0 c3_6_1 c3_6_2 c3_6_3 f3_6 s3_6 k3_0 k3_1 k3_2 k3_3 k3_4 k3_5 k3_6 HB3
    obtain ⟨c4_0_0, c4_0_1, c4_0_2, c4_0_3, f4_0⟩ := cells4 k4_0
    have s4_0 := bs_lt k4_0
    obtain ⟨c4_1_0, c4_1_1, c4_1_2, c4_1_3, f4_1⟩ := cells4 k4_1
    have s4_1 := bs_lt k4_1
    obtain ⟨c4_2_0, c4_2_1, c4_2_2, c4_2_3, f4_2⟩ := cells4 k4_2
    have s4_2 := bs_lt k4_2
    obtain ⟨c4_3_0, c4_3_1, c4_3_2, c4_3_3, f4_3⟩ := cells4 k4_3
    have s4_3 := bs_lt k4_3
    obtain ⟨c4_4_0, c4_4_1, c4_4_2, c4_4_3, f4_4⟩ := cells4 k4_4
    have s4_4 := bs_lt k4_4
    obtain ⟨c4_5_0, c4_5_1, c4_5_2, c4_5_3, f4_5⟩ := cells4 k4_5
    have s4_5 := bs_lt k4_5
    obtain ⟨c4_6_0, c4_6_1, c4_6_2, c4_6_3, f4_6⟩ := cells4 k4_6
    have s4_6 := bs_lt k4_6
    go_region
    go_wp2
    apply bp_letter3 (w.heap.size) w (w.heap.size + 1) 23 (w.heap.size + 1 + 1) 23 (w.heap.size + 1 + 1 + 1) 23
    case h0 => (repeat (first | (with_reducible assumption) | (with_reducible apply bs_same) | (with_reducible apply bs_far; case hp => (dsimp only; omega)) | (with_reducible apply bs_drew) | (with_reducible apply bs_drewN) | (with_reducible apply bs_new; (first | (with_reducible rfl) | (simp; done))) | (with_reducible apply bs_alloc) | (with_reducible apply bs_below; (case hb => with_reducible assumption); (case hB => first | omega | (simp; omega) | (simp; done)))))
    case h1 => (repeat (first | (with_reducible assumption) | (with_reducible apply bs_same) | (with_reducible apply bs_far; case hp => (dsimp only; omega)) | (with_reducible apply bs_drew) | (with_reducible apply bs_drewN) | (with_reducible apply bs_new; (first | (with_reducible rfl) | (simp; done))) | (with_reducible apply bs_alloc) | (with_reducible apply bs_below; (case hb => with_reducible assumption); (case hB => first | omega | (simp; omega) | (simp; done)))))
    case h2 => (repeat (first | (with_reducible assumption) | (with_reducible apply bs_same) | (with_reducible apply bs_far; case hp => (dsimp only; omega)) | (with_reducible apply bs_drew) | (with_reducible apply bs_drewN) | (with_reducible apply bs_new; (first | (with_reducible rfl) | (simp; done))) | (with_reducible apply bs_alloc) | (with_reducible apply bs_below; (case hb => with_reducible assumption); (case hB => first | omega | (simp; omega) | (simp; done)))))
    case hb => (repeat (first | (with_reducible assumption) | with_reducible exact be_refl _ | (with_reducible refine be_set ?_ (by dsimp only; omega)) | (with_reducible apply be_drew) | (with_reducible apply be_drewN) | (with_reducible refine be_alloc ?_ (by first | omega | (simp; omega) | simp)) | (with_reducible refine be_call (by with_reducible assumption) (by first | omega | (simp; omega) | simp) ?_)))
    intro w5_ k5_0 k5_1 k5_2 HB5
    try simp only [List.setIfInBounds_toArray, List.set_cons_zero, List.set_cons_succ] at k5_0 k5_1 k5_2
    clear c4_0_0 c4_0_1 c4_0_2 c4_0_3 f4_0 s4_0 c4_1_0 c4_1_1 c4_1_2 c4_1_3 f4_1 s4_1 c4_2_0 c4_2_1 c4_2_2 c4_2_3 f4_2 s4_2 c4_3_0 c4_3_1 c4_3_2 c4_3_3 f4_3 s4_3 c4_4_0 c4_4_1 c4_4_2 c4_4_3 f4_4 s4_4 c4_5_0 c4_5_1 c4_5_2 c4_5_3 f4_5 s4_5 c4_6_0 c4_6_1 c4_6_2 c4_6_3 f4_6 s4_6 k4_0 k4_1 k4_2 k4_3 k4_4 k4_5 k4_6 HB4
    obtain ⟨c5_0_0, c5_0_1, c5_0_2, c5_0_3, f5_0⟩ := cells4 k5_0
    have s5_0 := bs_lt k5_0
    obtain ⟨c5_1_0, c5_1_1, c5_1_2, c5_1_3, f5_1⟩ := cells4 k5_1
    have s5_1 := bs_lt k5_1
    obtain ⟨c5_2_0, c5_2_1, c5_2_2, c5_2_3, f5_2⟩ := cells4 k5_2
    have s5_2 := bs_lt k5_2
    exact bodyPost_ret (v := .tuple #[.agg #[.int .i64 x, .int .i64 y, .int .i64 f, .int .i64 b], .agg #[.int .i64 (x + f), .int .i64 y, .int .i64 1, .int .i64 b], .agg #[.int .i64 (x + f + 1), .int .i64 y, .int .i64 (a - f - 1), .int .i64 b], .bool true]) (by simp [results, Try.results11, go_sem, c5_0_0, c5_0_1, c5_0_2, c5_0_3, c5_1_0, c5_1_1, c5_1_2, c5_1_3, c5_2_0, c5_2_1, c5_2_2, c5_2_3] <;> omega) rfl ⟨rfl, HB5⟩
set_option maxHeartbeats 8000000 in
set_option maxRecDepth 100000 in
theorem polyptychref8_Cut.down (x y a b f : Int) (w : World) (hok : polyptychref8_none.f x y a b = some false) (hx1 : 0 ≤ x) (hx2 : x ≤ 1000) (hy1 : 0 ≤ y) (hy2 : y ≤ 1000) (ha1 : 0 ≤ a) (ha2 : a ≤ 1000) (hb1 : 0 ≤ b) (hb2 : b ≤ 1000) (h1 : 1 ≤ f) (h2 : f < b - 1) :
    Calls Try.prog 11 #[.agg #[.int .i64 x, .int .i64 y, .int .i64 a, .int .i64 b], .int .i64 2, .int .i64 f] w fun e w' => e = .returned (.tuple #[.agg #[.int .i64 x, .int .i64 y, .int .i64 a, .int .i64 f], .agg #[.int .i64 x, .int .i64 (y + f), .int .i64 a, .int .i64 1], .agg #[.int .i64 x, .int .i64 (y + f + 1), .int .i64 a, .int .i64 (b - f - 1)], .bool true]) ∧ Below w.heap.size w w' := by
  have hh := hide hok; clear hok
  have h3 : ¬ f < 1 := by omega
  have h2' : f ≤ b - 2 := by omega
  go_enter Try.func11, Try.ntmps11
  go_wp2_with (go_at_call 15; refine (polyptychref8_none.calls _ _ _ _ _ _ hh.out).mono ?_; rintro e w1 ⟨rfl, hb⟩)
  apply wp_letter4 (w.heap.size) w (w.heap.size) 23 (w.heap.size + 1) 23 (w.heap.size + 1 + 1) 23 (w.heap.size + 1 + 1 + 1) 23
  case h0 => (repeat (first | (with_reducible assumption) | (with_reducible apply bs_same) | (with_reducible apply bs_far; case hp => (dsimp only; omega)) | (with_reducible apply bs_drew) | (with_reducible apply bs_drewN) | (with_reducible apply bs_new; (first | (with_reducible rfl) | (simp; done))) | (with_reducible apply bs_alloc) | (with_reducible apply bs_below; (case hb => with_reducible assumption); (case hB => first | omega | (simp; omega) | (simp; done)))))
  case h1 => (repeat (first | (with_reducible assumption) | (with_reducible apply bs_same) | (with_reducible apply bs_far; case hp => (dsimp only; omega)) | (with_reducible apply bs_drew) | (with_reducible apply bs_drewN) | (with_reducible apply bs_new; (first | (with_reducible rfl) | (simp; done))) | (with_reducible apply bs_alloc) | (with_reducible apply bs_below; (case hb => with_reducible assumption); (case hB => first | omega | (simp; omega) | (simp; done)))))
  case h2 => (repeat (first | (with_reducible assumption) | (with_reducible apply bs_same) | (with_reducible apply bs_far; case hp => (dsimp only; omega)) | (with_reducible apply bs_drew) | (with_reducible apply bs_drewN) | (with_reducible apply bs_new; (first | (with_reducible rfl) | (simp; done))) | (with_reducible apply bs_alloc) | (with_reducible apply bs_below; (case hb => with_reducible assumption); (case hB => first | omega | (simp; omega) | (simp; done)))))
  case h3 => (repeat (first | (with_reducible assumption) | (with_reducible apply bs_same) | (with_reducible apply bs_far; case hp => (dsimp only; omega)) | (with_reducible apply bs_drew) | (with_reducible apply bs_drewN) | (with_reducible apply bs_new; (first | (with_reducible rfl) | (simp; done))) | (with_reducible apply bs_alloc) | (with_reducible apply bs_below; (case hb => with_reducible assumption); (case hB => first | omega | (simp; omega) | (simp; done)))))
  case hb => (repeat (first | (with_reducible assumption) | with_reducible exact be_refl _ | (with_reducible refine be_set ?_ (by dsimp only; omega)) | (with_reducible apply be_drew) | (with_reducible apply be_drewN) | (with_reducible refine be_alloc ?_ (by first | omega | (simp; omega) | simp)) | (with_reducible refine be_call (by with_reducible assumption) (by first | omega | (simp; omega) | simp) ?_)))
  intro w1_ k1_0 k1_1 k1_2 k1_3 HB1
  try simp only [List.setIfInBounds_toArray, List.set_cons_zero, List.set_cons_succ] at k1_0 k1_1 k1_2 k1_3
  obtain ⟨c1_0_0, c1_0_1, c1_0_2, c1_0_3, f1_0⟩ := cells4 k1_0
  have s1_0 := bs_lt k1_0
  obtain ⟨c1_1_0, c1_1_1, c1_1_2, c1_1_3, f1_1⟩ := cells4 k1_1
  have s1_1 := bs_lt k1_1
  obtain ⟨c1_2_0, c1_2_1, c1_2_2, c1_2_3, f1_2⟩ := cells4 k1_2
  have s1_2 := bs_lt k1_2
  obtain ⟨c1_3_0, c1_3_1, c1_3_2, c1_3_3, f1_3⟩ := cells4 k1_3
  have s1_3 := bs_lt k1_3
  go_cut [10, 11, 12] (fun s10 s11 s12 wx => ∃ g10 g11 g12 : Nat, s10 = .pointer (some ⟨g10, 0, none⟩) ∧ s11 = .pointer (some ⟨g11, 0, none⟩) ∧ s12 = .pointer (some ⟨g12, 0, none⟩) ∧ wx.heap[w.heap.size]? = some (.cells #[.int .i64 x, .int .i64 y, .int .i64 a, .int .i64 b] 23 (0, 0)) ∧ wx.heap[w.heap.size + 1]? = some (.cells #[.int .i64 0, .int .i64 0, .int .i64 0, .int .i64 0] 23 (0, 0)) ∧ wx.heap[w.heap.size + 1 + 1]? = some (.cells #[.int .i64 0, .int .i64 0, .int .i64 0, .int .i64 0] 23 (0, 0)) ∧ wx.heap[w.heap.size + 1 + 1 + 1]? = some (.cells #[.int .i64 0, .int .i64 0, .int .i64 0, .int .i64 0] 23 (0, 0)) ∧ wx.heap[g10]? = some (.cells #[.int .i64 x, .int .i64 y, .int .i64 a, .int .i64 b] 23 (0, 0)) ∧ wx.heap[g11]? = some (.cells #[.int .i64 x, .int .i64 y, .int .i64 a, .int .i64 b] 23 (0, 0)) ∧ wx.heap[g12]? = some (.cells #[.int .i64 x, .int .i64 y, .int .i64 a, .int .i64 b] 23 (0, 0)) ∧ (w.heap.size + 3 < g10 ∧ w.heap.size + 3 < g11 ∧ w.heap.size + 3 < g12 ∧ g10 ≠ g11 ∧ g10 ≠ g12 ∧ g11 ≠ g12) ∧ Below w.heap.size w wx)
  case first =>
    have hz3 : w.heap.size + 3 < w1_.heap.size := by have := bs_lt k1_3; omega
    go_region
    all_goals (go_wp2_with fail; go_meet; refine ⟨_, _, _, rfl, rfl, rfl, ?_, ?_, ?_, ?_, ?_, ?_, ?_, ?_, ?_⟩ <;> first | ((repeat (first | (with_reducible assumption) | (with_reducible apply bs_same) | (with_reducible apply bs_far; case hp => (dsimp only; omega)) | (with_reducible apply bs_drew) | (with_reducible apply bs_drewN) | (with_reducible apply bs_new; (first | (with_reducible rfl) | (simp; done))) | (with_reducible apply bs_alloc) | (with_reducible apply bs_below; (case hb => with_reducible assumption); (case hB => first | omega | (simp; omega) | (simp; done))))); done) | ((repeat (first | (with_reducible assumption) | with_reducible exact be_refl _ | (with_reducible refine be_set ?_ (by dsimp only; omega)) | (with_reducible apply be_drew) | (with_reducible apply be_drewN) | (with_reducible refine be_alloc ?_ (by first | omega | (simp; omega) | simp)) | (with_reducible refine be_call (by with_reducible assumption) (by first | omega | (simp; omega) | simp) ?_))); done) | (refine ⟨?_, ?_, ?_, ?_, ?_, ?_⟩ <;> first | omega | (simp; omega) | (simp; done)))
  case rest =>
    obtain ⟨g10, g11, g12, rfl, rfl, rfl, q0, q1, q2, q3, q10, q11, q12, ⟨m1, m2, m3, m4, m5, m6⟩, HBc⟩ := hcut
    clear k1_0 k1_1 k1_2 k1_3 HB1 c1_0_0 c1_0_1 c1_0_2 c1_0_3 f1_0 s1_0 c1_1_0 c1_1_1 c1_1_2 c1_1_3 f1_1 s1_1 c1_2_0 c1_2_1 c1_2_2 c1_2_3 f1_2 s1_2 c1_3_0 c1_3_1 c1_3_2 c1_3_3 f1_3 s1_3 hb
    obtain ⟨cq0_0, cq0_1, cq0_2, cq0_3, fq0⟩ := cells4 q0; have sq0 := bs_lt q0
    obtain ⟨cq1_0, cq1_1, cq1_2, cq1_3, fq1⟩ := cells4 q1; have sq1 := bs_lt q1
    obtain ⟨cq2_0, cq2_1, cq2_2, cq2_3, fq2⟩ := cells4 q2; have sq2 := bs_lt q2
    obtain ⟨cq3_0, cq3_1, cq3_2, cq3_3, fq3⟩ := cells4 q3; have sq3 := bs_lt q3
    obtain ⟨cq10_0, cq10_1, cq10_2, cq10_3, fq10⟩ := cells4 q10; have sq10 := bs_lt q10
    obtain ⟨cq11_0, cq11_1, cq11_2, cq11_3, fq11⟩ := cells4 q11; have sq11 := bs_lt q11
    obtain ⟨cq12_0, cq12_1, cq12_2, cq12_3, fq12⟩ := cells4 q12; have sq12 := bs_lt q12
    go_wp2
    apply wp_letter7 (w.heap.size) w (w.heap.size) 23 (w.heap.size + 1) 23 (w.heap.size + 1 + 1) 23 (w.heap.size + 1 + 1 + 1) 23 (g10) 23 (g11) 23 (g12) 23
    case h0 => (repeat (first | (with_reducible assumption) | (with_reducible apply bs_same) | (with_reducible apply bs_far; case hp => (dsimp only; omega)) | (with_reducible apply bs_drew) | (with_reducible apply bs_drewN) | (with_reducible apply bs_new; (first | (with_reducible rfl) | (simp; done))) | (with_reducible apply bs_alloc) | (with_reducible apply bs_below; (case hb => with_reducible assumption); (case hB => first | omega | (simp; omega) | (simp; done)))))
    case h1 => (repeat (first | (with_reducible assumption) | (with_reducible apply bs_same) | (with_reducible apply bs_far; case hp => (dsimp only; omega)) | (with_reducible apply bs_drew) | (with_reducible apply bs_drewN) | (with_reducible apply bs_new; (first | (with_reducible rfl) | (simp; done))) | (with_reducible apply bs_alloc) | (with_reducible apply bs_below; (case hb => with_reducible assumption); (case hB => first | omega | (simp; omega) | (simp; done)))))
    case h2 => (repeat (first | (with_reducible assumption) | (with_reducible apply bs_same) | (with_reducible apply bs_far; case hp => (dsimp only; omega)) | (with_reducible apply bs_drew) | (with_reducible apply bs_drewN) | (with_reducible apply bs_new; (first | (with_reducible rfl) | (simp; done))) | (with_reducible apply bs_alloc) | (with_reducible apply bs_below; (case hb => with_reducible assumption); (case hB => first | omega | (simp; omega) | (simp; done)))))
    case h3 => (repeat (first | (with_reducible assumption) | (with_reducible apply bs_same) | (with_reducible apply bs_far; case hp => (dsimp only; omega)) | (with_reducible apply bs_drew) | (with_reducible apply bs_drewN) | (with_reducible apply bs_new; (first | (with_reducible rfl) | (simp; done))) | (with_reducible apply bs_alloc) | (with_reducible apply bs_below; (case hb => with_reducible assumption); (case hB => first | omega | (simp; omega) | (simp; done)))))
    case h4 => (repeat (first | (with_reducible assumption) | (with_reducible apply bs_same) | (with_reducible apply bs_far; case hp => (dsimp only; omega)) | (with_reducible apply bs_drew) | (with_reducible apply bs_drewN) | (with_reducible apply bs_new; (first | (with_reducible rfl) | (simp; done))) | (with_reducible apply bs_alloc) | (with_reducible apply bs_below; (case hb => with_reducible assumption); (case hB => first | omega | (simp; omega) | (simp; done)))))
    case h5 => (repeat (first | (with_reducible assumption) | (with_reducible apply bs_same) | (with_reducible apply bs_far; case hp => (dsimp only; omega)) | (with_reducible apply bs_drew) | (with_reducible apply bs_drewN) | (with_reducible apply bs_new; (first | (with_reducible rfl) | (simp; done))) | (with_reducible apply bs_alloc) | (with_reducible apply bs_below; (case hb => with_reducible assumption); (case hB => first | omega | (simp; omega) | (simp; done)))))
    case h6 => (repeat (first | (with_reducible assumption) | (with_reducible apply bs_same) | (with_reducible apply bs_far; case hp => (dsimp only; omega)) | (with_reducible apply bs_drew) | (with_reducible apply bs_drewN) | (with_reducible apply bs_new; (first | (with_reducible rfl) | (simp; done))) | (with_reducible apply bs_alloc) | (with_reducible apply bs_below; (case hb => with_reducible assumption); (case hB => first | omega | (simp; omega) | (simp; done)))))
    case hb => (repeat (first | (with_reducible assumption) | with_reducible exact be_refl _ | (with_reducible refine be_set ?_ (by dsimp only; omega)) | (with_reducible apply be_drew) | (with_reducible apply be_drewN) | (with_reducible refine be_alloc ?_ (by first | omega | (simp; omega) | simp)) | (with_reducible refine be_call (by with_reducible assumption) (by first | omega | (simp; omega) | simp) ?_)))
    intro w2_ k2_0 k2_1 k2_2 k2_3 k2_4 k2_5 k2_6 HB2
    try simp only [List.setIfInBounds_toArray, List.set_cons_zero, List.set_cons_succ] at k2_0 k2_1 k2_2 k2_3 k2_4 k2_5 k2_6
    clear cq0_0 cq0_1 cq0_2 cq0_3 fq0 sq0 q0 cq1_0 cq1_1 cq1_2 cq1_3 fq1 sq1 q1 cq2_0 cq2_1 cq2_2 cq2_3 fq2 sq2 q2 cq3_0 cq3_1 cq3_2 cq3_3 fq3 sq3 q3 cq10_0 cq10_1 cq10_2 cq10_3 fq10 sq10 q10 cq11_0 cq11_1 cq11_2 cq11_3 fq11 sq11 q11 cq12_0 cq12_1 cq12_2 cq12_3 fq12 sq12 q12 HBc
    obtain ⟨c2_0_0, c2_0_1, c2_0_2, c2_0_3, f2_0⟩ := cells4 k2_0
    have s2_0 := bs_lt k2_0
    obtain ⟨c2_1_0, c2_1_1, c2_1_2, c2_1_3, f2_1⟩ := cells4 k2_1
    have s2_1 := bs_lt k2_1
    obtain ⟨c2_2_0, c2_2_1, c2_2_2, c2_2_3, f2_2⟩ := cells4 k2_2
    have s2_2 := bs_lt k2_2
    obtain ⟨c2_3_0, c2_3_1, c2_3_2, c2_3_3, f2_3⟩ := cells4 k2_3
    have s2_3 := bs_lt k2_3
    obtain ⟨c2_4_0, c2_4_1, c2_4_2, c2_4_3, f2_4⟩ := cells4 k2_4
    have s2_4 := bs_lt k2_4
    obtain ⟨c2_5_0, c2_5_1, c2_5_2, c2_5_3, f2_5⟩ := cells4 k2_5
    have s2_5 := bs_lt k2_5
    obtain ⟨c2_6_0, c2_6_1, c2_6_2, c2_6_3, f2_6⟩ := cells4 k2_6
    have s2_6 := bs_lt k2_6
    go_region
    go_wp2
    apply wp_letter7 (w.heap.size) w (w.heap.size) 23 (w.heap.size + 1) 23 (w.heap.size + 1 + 1) 23 (w.heap.size + 1 + 1 + 1) 23 (g10) 23 (g11) 23 (g12) 23
    case h0 => (repeat (first | (with_reducible assumption) | (with_reducible apply bs_same) | (with_reducible apply bs_far; case hp => (dsimp only; omega)) | (with_reducible apply bs_drew) | (with_reducible apply bs_drewN) | (with_reducible apply bs_new; (first | (with_reducible rfl) | (simp; done))) | (with_reducible apply bs_alloc) | (with_reducible apply bs_below; (case hb => with_reducible assumption); (case hB => first | omega | (simp; omega) | (simp; done)))))
    case h1 => (repeat (first | (with_reducible assumption) | (with_reducible apply bs_same) | (with_reducible apply bs_far; case hp => (dsimp only; omega)) | (with_reducible apply bs_drew) | (with_reducible apply bs_drewN) | (with_reducible apply bs_new; (first | (with_reducible rfl) | (simp; done))) | (with_reducible apply bs_alloc) | (with_reducible apply bs_below; (case hb => with_reducible assumption); (case hB => first | omega | (simp; omega) | (simp; done)))))
    case h2 => (repeat (first | (with_reducible assumption) | (with_reducible apply bs_same) | (with_reducible apply bs_far; case hp => (dsimp only; omega)) | (with_reducible apply bs_drew) | (with_reducible apply bs_drewN) | (with_reducible apply bs_new; (first | (with_reducible rfl) | (simp; done))) | (with_reducible apply bs_alloc) | (with_reducible apply bs_below; (case hb => with_reducible assumption); (case hB => first | omega | (simp; omega) | (simp; done)))))
    case h3 => (repeat (first | (with_reducible assumption) | (with_reducible apply bs_same) | (with_reducible apply bs_far; case hp => (dsimp only; omega)) | (with_reducible apply bs_drew) | (with_reducible apply bs_drewN) | (with_reducible apply bs_new; (first | (with_reducible rfl) | (simp; done))) | (with_reducible apply bs_alloc) | (with_reducible apply bs_below; (case hb => with_reducible assumption); (case hB => first | omega | (simp; omega) | (simp; done)))))
    case h4 => (repeat (first | (with_reducible assumption) | (with_reducible apply bs_same) | (with_reducible apply bs_far; case hp => (dsimp only; omega)) | (with_reducible apply bs_drew) | (with_reducible apply bs_drewN) | (with_reducible apply bs_new; (first | (with_reducible rfl) | (simp; done))) | (with_reducible apply bs_alloc) | (with_reducible apply bs_below; (case hb => with_reducible assumption); (case hB => first | omega | (simp; omega) | (simp; done)))))
    case h5 => (repeat (first | (with_reducible assumption) | (with_reducible apply bs_same) | (with_reducible apply bs_far; case hp => (dsimp only; omega)) | (with_reducible apply bs_drew) | (with_reducible apply bs_drewN) | (with_reducible apply bs_new; (first | (with_reducible rfl) | (simp; done))) | (with_reducible apply bs_alloc) | (with_reducible apply bs_below; (case hb => with_reducible assumption); (case hB => first | omega | (simp; omega) | (simp; done)))))
    case h6 => (repeat (first | (with_reducible assumption) | (with_reducible apply bs_same) | (with_reducible apply bs_far; case hp => (dsimp only; omega)) | (with_reducible apply bs_drew) | (with_reducible apply bs_drewN) | (with_reducible apply bs_new; (first | (with_reducible rfl) | (simp; done))) | (with_reducible apply bs_alloc) | (with_reducible apply bs_below; (case hb => with_reducible assumption); (case hB => first | omega | (simp; omega) | (simp; done)))))
    case hb => (repeat (first | (with_reducible assumption) | with_reducible exact be_refl _ | (with_reducible refine be_set ?_ (by dsimp only; omega)) | (with_reducible apply be_drew) | (with_reducible apply be_drewN) | (with_reducible refine be_alloc ?_ (by first | omega | (simp; omega) | simp)) | (with_reducible refine be_call (by with_reducible assumption) (by first | omega | (simp; omega) | simp) ?_)))
    intro w3_ k3_0 k3_1 k3_2 k3_3 k3_4 k3_5 k3_6 HB3
    try simp only [List.setIfInBounds_toArray, List.set_cons_zero, List.set_cons_succ] at k3_0 k3_1 k3_2 k3_3 k3_4 k3_5 k3_6
    clear c2_0_0 c2_0_1 c2_0_2 c2_0_3 f2_0 s2_0 c2_1_0 c2_1_1 c2_1_2 c2_1_3 f2_1 s2_1 c2_2_0 c2_2_1 c2_2_2 c2_2_3 f2_2 s2_2 c2_3_0 c2_3_1 c2_3_2 c2_3_3 f2_3 s2_3 c2_4_0 c2_4_1 c2_4_2 c2_4_3 f2_4 s2_4 c2_5_0 c2_5_1 c2_5_2 c2_5_3 f2_5 s2_5 c2_6_0 c2_6_1 c2_6_2 c2_6_3 f2_6 s2_6 k2_0 k2_1 k2_2 k2_3 k2_4 k2_5 k2_6 HB2
    obtain ⟨c3_0_0, c3_0_1, c3_0_2, c3_0_3, f3_0⟩ := cells4 k3_0
    have s3_0 := bs_lt k3_0
    obtain ⟨c3_1_0, c3_1_1, c3_1_2, c3_1_3, f3_1⟩ := cells4 k3_1
    have s3_1 := bs_lt k3_1
    obtain ⟨c3_2_0, c3_2_1, c3_2_2, c3_2_3, f3_2⟩ := cells4 k3_2
    have s3_2 := bs_lt k3_2
    obtain ⟨c3_3_0, c3_3_1, c3_3_2, c3_3_3, f3_3⟩ := cells4 k3_3
    have s3_3 := bs_lt k3_3
    obtain ⟨c3_4_0, c3_4_1, c3_4_2, c3_4_3, f3_4⟩ := cells4 k3_4
    have s3_4 := bs_lt k3_4
    obtain ⟨c3_5_0, c3_5_1, c3_5_2, c3_5_3, f3_5⟩ := cells4 k3_5
    have s3_5 := bs_lt k3_5
    obtain ⟨c3_6_0, c3_6_1, c3_6_2, c3_6_3, f3_6⟩ := cells4 k3_6
    have s3_6 := bs_lt k3_6
    go_region
    go_wp2
    apply wp_letter7 (w.heap.size) w (w.heap.size) 23 (w.heap.size + 1) 23 (w.heap.size + 1 + 1) 23 (w.heap.size + 1 + 1 + 1) 23 (g10) 23 (g11) 23 (g12) 23
    case h0 => (repeat (first | (with_reducible assumption) | (with_reducible apply bs_same) | (with_reducible apply bs_far; case hp => (dsimp only; omega)) | (with_reducible apply bs_drew) | (with_reducible apply bs_drewN) | (with_reducible apply bs_new; (first | (with_reducible rfl) | (simp; done))) | (with_reducible apply bs_alloc) | (with_reducible apply bs_below; (case hb => with_reducible assumption); (case hB => first | omega | (simp; omega) | (simp; done)))))
    case h1 => (repeat (first | (with_reducible assumption) | (with_reducible apply bs_same) | (with_reducible apply bs_far; case hp => (dsimp only; omega)) | (with_reducible apply bs_drew) | (with_reducible apply bs_drewN) | (with_reducible apply bs_new; (first | (with_reducible rfl) | (simp; done))) | (with_reducible apply bs_alloc) | (with_reducible apply bs_below; (case hb => with_reducible assumption); (case hB => first | omega | (simp; omega) | (simp; done)))))
    case h2 => (repeat (first | (with_reducible assumption) | (with_reducible apply bs_same) | (with_reducible apply bs_far; case hp => (dsimp only; omega)) | (with_reducible apply bs_drew) | (with_reducible apply bs_drewN) | (with_reducible apply bs_new; (first | (with_reducible rfl) | (simp; done))) | (with_reducible apply bs_alloc) | (with_reducible apply bs_below; (case hb => with_reducible assumption); (case hB => first | omega | (simp; omega) | (simp; done)))))
    case h3 => (repeat (first | (with_reducible assumption) | (with_reducible apply bs_same) | (with_reducible apply bs_far; case hp => (dsimp only; omega)) | (with_reducible apply bs_drew) | (with_reducible apply bs_drewN) | (with_reducible apply bs_new; (first | (with_reducible rfl) | (simp; done))) | (with_reducible apply bs_alloc) | (with_reducible apply bs_below; (case hb => with_reducible assumption); (case hB => first | omega | (simp; omega) | (simp; done)))))
    case h4 => (repeat (first | (with_reducible assumption) | (with_reducible apply bs_same) | (with_reducible apply bs_far; case hp => (dsimp only; omega)) | (with_reducible apply bs_drew) | (with_reducible apply bs_drewN) | (with_reducible apply bs_new; (first | (with_reducible rfl) | (simp; done))) | (with_reducible apply bs_alloc) | (with_reducible apply bs_below; (case hb => with_reducible assumption); (case hB => first | omega | (simp; omega) | (simp; done)))))
    case h5 => (repeat (first | (with_reducible assumption) | (with_reducible apply bs_same) | (with_reducible apply bs_far; case hp => (dsimp only; omega)) | (with_reducible apply bs_drew) | (with_reducible apply bs_drewN) | (with_reducible apply bs_new; (first | (with_reducible rfl) | (simp; done))) | (with_reducible apply bs_alloc) | (with_reducible apply bs_below; (case hb => with_reducible assumption); (case hB => first | omega | (simp; omega) | (simp; done)))))
    case h6 => (repeat (first | (with_reducible assumption) | (with_reducible apply bs_same) | (with_reducible apply bs_far; case hp => (dsimp only; omega)) | (with_reducible apply bs_drew) | (with_reducible apply bs_drewN) | (with_reducible apply bs_new; (first | (with_reducible rfl) | (simp; done))) | (with_reducible apply bs_alloc) | (with_reducible apply bs_below; (case hb => with_reducible assumption); (case hB => first | omega | (simp; omega) | (simp; done)))))
    case hb => (repeat (first | (with_reducible assumption) | with_reducible exact be_refl _ | (with_reducible refine be_set ?_ (by dsimp only; omega)) | (with_reducible apply be_drew) | (with_reducible apply be_drewN) | (with_reducible refine be_alloc ?_ (by first | omega | (simp; omega) | simp)) | (with_reducible refine be_call (by with_reducible assumption) (by first | omega | (simp; omega) | simp) ?_)))
    intro w4_ k4_0 k4_1 k4_2 k4_3 k4_4 k4_5 k4_6 HB4
    try simp only [List.setIfInBounds_toArray, List.set_cons_zero, List.set_cons_succ] at k4_0 k4_1 k4_2 k4_3 k4_4 k4_5 k4_6
    clear c3_0_0 c3_0_1 c3_0_2 c3_0_3 f3_0 s3_0 c3_1_0 c3_1_1 c3_1_2 c3_1_3 f3_1 s3_1 c3_2_0 c3_2_1 c3_2_2 c3_2_3 f3_2 s3_2 c3_3_0 c3_3_1 c3_3_2 c3_3_3 f3_3 s3_3 c3_4_0 c3_4_1 c3_4_2 c3_4_3 f3_4 s3_4 c3_5_0 c3_5_1 c3_5_2 c3_5_3 f3_5 s3_5 c3_6_0 c3_6_1 c3_6_2 c3_6_3 f3_6 s3_6 k3_0 k3_1 k3_2 k3_3 k3_4 k3_5 k3_6 HB3
    obtain ⟨c4_0_0, c4_0_1, c4_0_2, c4_0_3, f4_0⟩ := cells4 k4_0
    have s4_0 := bs_lt k4_0
    obtain ⟨c4_1_0, c4_1_1, c4_1_2, c4_1_3, f4_1⟩ := cells4 k4_1
    have s4_1 := bs_lt k4_1
    obtain ⟨c4_2_0, c4_2_1, c4_2_2, c4_2_3, f4_2⟩ := cells4 k4_2
    have s4_2 := bs_lt k4_2
    obtain ⟨c4_3_0, c4_3_1, c4_3_2, c4_3_3, f4_3⟩ := cells4 k4_3
    have s4_3 := bs_lt k4_3
    obtain ⟨c4_4_0, c4_4_1, c4_4_2, c4_4_3, f4_4⟩ := cells4 k4_4
    have s4_4 := bs_lt k4_4
    obtain ⟨c4_5_0, c4_5_1, c4_5_2, c4_5_3, f4_5⟩ := cells4 k4_5
    have s4_5 := bs_lt k4_5
    obtain ⟨c4_6_0, c4_6_1, c4_6_2, c4_6_3, f4_6⟩ := cells4 k4_6
    have s4_6 := bs_lt k4_6
    go_region
    go_wp2
    apply bp_letter3 (w.heap.size) w (w.heap.size + 1) 23 (w.heap.size + 1 + 1) 23 (w.heap.size + 1 + 1 + 1) 23
    case h0 => (repeat (first | (with_reducible assumption) | (with_reducible apply bs_same) | (with_reducible apply bs_far; case hp => (dsimp only; omega)) | (with_reducible apply bs_drew) | (with_reducible apply bs_drewN) | (with_reducible apply bs_new; (first | (with_reducible rfl) | (simp; done))) | (with_reducible apply bs_alloc) | (with_reducible apply bs_below; (case hb => with_reducible assumption); (case hB => first | omega | (simp; omega) | (simp; done)))))
    case h1 => (repeat (first | (with_reducible assumption) | (with_reducible apply bs_same) | (with_reducible apply bs_far; case hp => (dsimp only; omega)) | (with_reducible apply bs_drew) | (with_reducible apply bs_drewN) | (with_reducible apply bs_new; (first | (with_reducible rfl) | (simp; done))) | (with_reducible apply bs_alloc) | (with_reducible apply bs_below; (case hb => with_reducible assumption); (case hB => first | omega | (simp; omega) | (simp; done)))))
    case h2 => (repeat (first | (with_reducible assumption) | (with_reducible apply bs_same) | (with_reducible apply bs_far; case hp => (dsimp only; omega)) | (with_reducible apply bs_drew) | (with_reducible apply bs_drewN) | (with_reducible apply bs_new; (first | (with_reducible rfl) | (simp; done))) | (with_reducible apply bs_alloc) | (with_reducible apply bs_below; (case hb => with_reducible assumption); (case hB => first | omega | (simp; omega) | (simp; done)))))
    case hb => (repeat (first | (with_reducible assumption) | with_reducible exact be_refl _ | (with_reducible refine be_set ?_ (by dsimp only; omega)) | (with_reducible apply be_drew) | (with_reducible apply be_drewN) | (with_reducible refine be_alloc ?_ (by first | omega | (simp; omega) | simp)) | (with_reducible refine be_call (by with_reducible assumption) (by first | omega | (simp; omega) | simp) ?_)))
    intro w5_ k5_0 k5_1 k5_2 HB5
    try simp only [List.setIfInBounds_toArray, List.set_cons_zero, List.set_cons_succ] at k5_0 k5_1 k5_2
    clear c4_0_0 c4_0_1 c4_0_2 c4_0_3 f4_0 s4_0 c4_1_0 c4_1_1 c4_1_2 c4_1_3 f4_1 s4_1 c4_2_0 c4_2_1 c4_2_2 c4_2_3 f4_2 s4_2 c4_3_0 c4_3_1 c4_3_2 c4_3_3 f4_3 s4_3 c4_4_0 c4_4_1 c4_4_2 c4_4_3 f4_4 s4_4 c4_5_0 c4_5_1 c4_5_2 c4_5_3 f4_5 s4_5 c4_6_0 c4_6_1 c4_6_2 c4_6_3 f4_6 s4_6 k4_0 k4_1 k4_2 k4_3 k4_4 k4_5 k4_6 HB4
    obtain ⟨c5_0_0, c5_0_1, c5_0_2, c5_0_3, f5_0⟩ := cells4 k5_0
    have s5_0 := bs_lt k5_0
    obtain ⟨c5_1_0, c5_1_1, c5_1_2, c5_1_3, f5_1⟩ := cells4 k5_1
    have s5_1 := bs_lt k5_1
    obtain ⟨c5_2_0, c5_2_1, c5_2_2, c5_2_3, f5_2⟩ := cells4 k5_2
    have s5_2 := bs_lt k5_2
    exact bodyPost_ret (v := .tuple #[.agg #[.int .i64 x, .int .i64 y, .int .i64 a, .int .i64 f], .agg #[.int .i64 x, .int .i64 (y + f), .int .i64 a, .int .i64 1], .agg #[.int .i64 x, .int .i64 (y + f + 1), .int .i64 a, .int .i64 (b - f - 1)], .bool true]) (by simp [results, Try.results11, go_sem, c5_0_0, c5_0_1, c5_0_2, c5_0_3, c5_1_0, c5_1_1, c5_1_2, c5_1_3, c5_2_0, c5_2_1, c5_2_2, c5_2_3] <;> omega) rfl ⟨rfl, HB5⟩
set_option maxHeartbeats 8000000 in
set_option maxRecDepth 100000 in
theorem polyptychref8_Cut.no1 (x y a b f : Int) (w : World) (hok : polyptychref8_none.f x y a b = some false) (hx1 : 0 ≤ x) (hx2 : x ≤ 1000) (hy1 : 0 ≤ y) (hy2 : y ≤ 1000) (ha1 : 0 ≤ a) (ha2 : a ≤ 1000) (hb1 : 0 ≤ b) (hb2 : b ≤ 1000) (h1 : 1 ≤ f) (h2 : ¬ f < a - 1) :
    Calls Try.prog 11 #[.agg #[.int .i64 x, .int .i64 y, .int .i64 a, .int .i64 b], .int .i64 1, .int .i64 f] w fun e w' => e = .returned (.tuple #[.agg #[.int .i64 0, .int .i64 0, .int .i64 0, .int .i64 0], .agg #[.int .i64 0, .int .i64 0, .int .i64 0, .int .i64 0], .agg #[.int .i64 0, .int .i64 0, .int .i64 0, .int .i64 0], .bool false]) ∧ Below w.heap.size w w' := by
  have hh := hide hok; clear hok
  have h3 : ¬ f < 1 := by omega
  have h2' : ¬ f ≤ a - 2 := by omega
  go_enter Try.func11, Try.ntmps11
  go_wp2_with (go_at_call 15; refine (polyptychref8_none.calls _ _ _ _ _ _ hh.out).mono ?_; rintro e w1 ⟨rfl, hb⟩)
  apply wp_letter4 (w.heap.size) w (w.heap.size) 23 (w.heap.size + 1) 23 (w.heap.size + 1 + 1) 23 (w.heap.size + 1 + 1 + 1) 23
  case h0 => (repeat (first | (with_reducible assumption) | (with_reducible apply bs_same) | (with_reducible apply bs_far; case hp => (dsimp only; omega)) | (with_reducible apply bs_drew) | (with_reducible apply bs_drewN) | (with_reducible apply bs_new; (first | (with_reducible rfl) | (simp; done))) | (with_reducible apply bs_alloc) | (with_reducible apply bs_below; (case hb => with_reducible assumption); (case hB => first | omega | (simp; omega) | (simp; done)))))
  case h1 => (repeat (first | (with_reducible assumption) | (with_reducible apply bs_same) | (with_reducible apply bs_far; case hp => (dsimp only; omega)) | (with_reducible apply bs_drew) | (with_reducible apply bs_drewN) | (with_reducible apply bs_new; (first | (with_reducible rfl) | (simp; done))) | (with_reducible apply bs_alloc) | (with_reducible apply bs_below; (case hb => with_reducible assumption); (case hB => first | omega | (simp; omega) | (simp; done)))))
  case h2 => (repeat (first | (with_reducible assumption) | (with_reducible apply bs_same) | (with_reducible apply bs_far; case hp => (dsimp only; omega)) | (with_reducible apply bs_drew) | (with_reducible apply bs_drewN) | (with_reducible apply bs_new; (first | (with_reducible rfl) | (simp; done))) | (with_reducible apply bs_alloc) | (with_reducible apply bs_below; (case hb => with_reducible assumption); (case hB => first | omega | (simp; omega) | (simp; done)))))
  case h3 => (repeat (first | (with_reducible assumption) | (with_reducible apply bs_same) | (with_reducible apply bs_far; case hp => (dsimp only; omega)) | (with_reducible apply bs_drew) | (with_reducible apply bs_drewN) | (with_reducible apply bs_new; (first | (with_reducible rfl) | (simp; done))) | (with_reducible apply bs_alloc) | (with_reducible apply bs_below; (case hb => with_reducible assumption); (case hB => first | omega | (simp; omega) | (simp; done)))))
  case hb => (repeat (first | (with_reducible assumption) | with_reducible exact be_refl _ | (with_reducible refine be_set ?_ (by dsimp only; omega)) | (with_reducible apply be_drew) | (with_reducible apply be_drewN) | (with_reducible refine be_alloc ?_ (by first | omega | (simp; omega) | simp)) | (with_reducible refine be_call (by with_reducible assumption) (by first | omega | (simp; omega) | simp) ?_)))
  intro w1_ k1_0 k1_1 k1_2 k1_3 HB1
  try simp only [List.setIfInBounds_toArray, List.set_cons_zero, List.set_cons_succ] at k1_0 k1_1 k1_2 k1_3
  obtain ⟨c1_0_0, c1_0_1, c1_0_2, c1_0_3, f1_0⟩ := cells4 k1_0
  have s1_0 := bs_lt k1_0
  obtain ⟨c1_1_0, c1_1_1, c1_1_2, c1_1_3, f1_1⟩ := cells4 k1_1
  have s1_1 := bs_lt k1_1
  obtain ⟨c1_2_0, c1_2_1, c1_2_2, c1_2_3, f1_2⟩ := cells4 k1_2
  have s1_2 := bs_lt k1_2
  obtain ⟨c1_3_0, c1_3_1, c1_3_2, c1_3_3, f1_3⟩ := cells4 k1_3
  have s1_3 := bs_lt k1_3
  go_cut [10, 11, 12] (fun s10 s11 s12 wx => ∃ g10 g11 g12 : Nat, s10 = .pointer (some ⟨g10, 0, none⟩) ∧ s11 = .pointer (some ⟨g11, 0, none⟩) ∧ s12 = .pointer (some ⟨g12, 0, none⟩) ∧ wx.heap[w.heap.size]? = some (.cells #[.int .i64 x, .int .i64 y, .int .i64 a, .int .i64 b] 23 (0, 0)) ∧ wx.heap[w.heap.size + 1]? = some (.cells #[.int .i64 0, .int .i64 0, .int .i64 0, .int .i64 0] 23 (0, 0)) ∧ wx.heap[w.heap.size + 1 + 1]? = some (.cells #[.int .i64 0, .int .i64 0, .int .i64 0, .int .i64 0] 23 (0, 0)) ∧ wx.heap[w.heap.size + 1 + 1 + 1]? = some (.cells #[.int .i64 0, .int .i64 0, .int .i64 0, .int .i64 0] 23 (0, 0)) ∧ wx.heap[g10]? = some (.cells #[.int .i64 x, .int .i64 y, .int .i64 a, .int .i64 b] 23 (0, 0)) ∧ wx.heap[g11]? = some (.cells #[.int .i64 x, .int .i64 y, .int .i64 a, .int .i64 b] 23 (0, 0)) ∧ wx.heap[g12]? = some (.cells #[.int .i64 x, .int .i64 y, .int .i64 a, .int .i64 b] 23 (0, 0)) ∧ (w.heap.size + 3 < g10 ∧ w.heap.size + 3 < g11 ∧ w.heap.size + 3 < g12 ∧ g10 ≠ g11 ∧ g10 ≠ g12 ∧ g11 ≠ g12) ∧ Below w.heap.size w wx)
  case first =>
    have hz3 : w.heap.size + 3 < w1_.heap.size := by have := bs_lt k1_3; omega
    go_region
    all_goals (go_wp2_with fail; go_meet; refine ⟨_, _, _, rfl, rfl, rfl, ?_, ?_, ?_, ?_, ?_, ?_, ?_, ?_, ?_⟩ <;> first | ((repeat (first | (with_reducible assumption) | (with_reducible apply bs_same) | (with_reducible apply bs_far; case hp => (dsimp only; omega)) | (with_reducible apply bs_drew) | (with_reducible apply bs_drewN) | (with_reducible apply bs_new; (first | (with_reducible rfl) | (simp; done))) | (with_reducible apply bs_alloc) | (with_reducible apply bs_below; (case hb => with_reducible assumption); (case hB => first | omega | (simp; omega) | (simp; done))))); done) | ((repeat (first | (with_reducible assumption) | with_reducible exact be_refl _ | (with_reducible refine be_set ?_ (by dsimp only; omega)) | (with_reducible apply be_drew) | (with_reducible apply be_drewN) | (with_reducible refine be_alloc ?_ (by first | omega | (simp; omega) | simp)) | (with_reducible refine be_call (by with_reducible assumption) (by first | omega | (simp; omega) | simp) ?_))); done) | (refine ⟨?_, ?_, ?_, ?_, ?_, ?_⟩ <;> first | omega | (simp; omega) | (simp; done)))
  case rest =>
    obtain ⟨g10, g11, g12, rfl, rfl, rfl, q0, q1, q2, q3, q10, q11, q12, ⟨m1, m2, m3, m4, m5, m6⟩, HBc⟩ := hcut
    clear k1_0 k1_1 k1_2 k1_3 HB1 c1_0_0 c1_0_1 c1_0_2 c1_0_3 f1_0 s1_0 c1_1_0 c1_1_1 c1_1_2 c1_1_3 f1_1 s1_1 c1_2_0 c1_2_1 c1_2_2 c1_2_3 f1_2 s1_2 c1_3_0 c1_3_1 c1_3_2 c1_3_3 f1_3 s1_3 hb
    obtain ⟨cq0_0, cq0_1, cq0_2, cq0_3, fq0⟩ := cells4 q0; have sq0 := bs_lt q0
    obtain ⟨cq1_0, cq1_1, cq1_2, cq1_3, fq1⟩ := cells4 q1; have sq1 := bs_lt q1
    obtain ⟨cq2_0, cq2_1, cq2_2, cq2_3, fq2⟩ := cells4 q2; have sq2 := bs_lt q2
    obtain ⟨cq3_0, cq3_1, cq3_2, cq3_3, fq3⟩ := cells4 q3; have sq3 := bs_lt q3
    obtain ⟨cq10_0, cq10_1, cq10_2, cq10_3, fq10⟩ := cells4 q10; have sq10 := bs_lt q10
    obtain ⟨cq11_0, cq11_1, cq11_2, cq11_3, fq11⟩ := cells4 q11; have sq11 := bs_lt q11
    obtain ⟨cq12_0, cq12_1, cq12_2, cq12_3, fq12⟩ := cells4 q12; have sq12 := bs_lt q12
    go_wp2
    apply bp_letter3 (w.heap.size) w (w.heap.size + 1) 23 (w.heap.size + 1 + 1) 23 (w.heap.size + 1 + 1 + 1) 23
    case h0 => (repeat (first | (with_reducible assumption) | (with_reducible apply bs_same) | (with_reducible apply bs_far; case hp => (dsimp only; omega)) | (with_reducible apply bs_drew) | (with_reducible apply bs_drewN) | (with_reducible apply bs_new; (first | (with_reducible rfl) | (simp; done))) | (with_reducible apply bs_alloc) | (with_reducible apply bs_below; (case hb => with_reducible assumption); (case hB => first | omega | (simp; omega) | (simp; done)))))
    case h1 => (repeat (first | (with_reducible assumption) | (with_reducible apply bs_same) | (with_reducible apply bs_far; case hp => (dsimp only; omega)) | (with_reducible apply bs_drew) | (with_reducible apply bs_drewN) | (with_reducible apply bs_new; (first | (with_reducible rfl) | (simp; done))) | (with_reducible apply bs_alloc) | (with_reducible apply bs_below; (case hb => with_reducible assumption); (case hB => first | omega | (simp; omega) | (simp; done)))))
    case h2 => (repeat (first | (with_reducible assumption) | (with_reducible apply bs_same) | (with_reducible apply bs_far; case hp => (dsimp only; omega)) | (with_reducible apply bs_drew) | (with_reducible apply bs_drewN) | (with_reducible apply bs_new; (first | (with_reducible rfl) | (simp; done))) | (with_reducible apply bs_alloc) | (with_reducible apply bs_below; (case hb => with_reducible assumption); (case hB => first | omega | (simp; omega) | (simp; done)))))
    case hb => (repeat (first | (with_reducible assumption) | with_reducible exact be_refl _ | (with_reducible refine be_set ?_ (by dsimp only; omega)) | (with_reducible apply be_drew) | (with_reducible apply be_drewN) | (with_reducible refine be_alloc ?_ (by first | omega | (simp; omega) | simp)) | (with_reducible refine be_call (by with_reducible assumption) (by first | omega | (simp; omega) | simp) ?_)))
    intro w2_ k2_0 k2_1 k2_2 HB2
    try simp only [List.setIfInBounds_toArray, List.set_cons_zero, List.set_cons_succ] at k2_0 k2_1 k2_2
    clear cq0_0 cq0_1 cq0_2 cq0_3 fq0 sq0 q0 cq1_0 cq1_1 cq1_2 cq1_3 fq1 sq1 q1 cq2_0 cq2_1 cq2_2 cq2_3 fq2 sq2 q2 cq3_0 cq3_1 cq3_2 cq3_3 fq3 sq3 q3 cq10_0 cq10_1 cq10_2 cq10_3 fq10 sq10 q10 cq11_0 cq11_1 cq11_2 cq11_3 fq11 sq11 q11 cq12_0 cq12_1 cq12_2 cq12_3 fq12 sq12 q12 HBc
    obtain ⟨c2_0_0, c2_0_1, c2_0_2, c2_0_3, f2_0⟩ := cells4 k2_0
    have s2_0 := bs_lt k2_0
    obtain ⟨c2_1_0, c2_1_1, c2_1_2, c2_1_3, f2_1⟩ := cells4 k2_1
    have s2_1 := bs_lt k2_1
    obtain ⟨c2_2_0, c2_2_1, c2_2_2, c2_2_3, f2_2⟩ := cells4 k2_2
    have s2_2 := bs_lt k2_2
    exact bodyPost_ret (v := .tuple #[.agg #[.int .i64 0, .int .i64 0, .int .i64 0, .int .i64 0], .agg #[.int .i64 0, .int .i64 0, .int .i64 0, .int .i64 0], .agg #[.int .i64 0, .int .i64 0, .int .i64 0, .int .i64 0], .bool false]) (by simp [results, Try.results11, go_sem, c2_0_0, c2_0_1, c2_0_2, c2_0_3, c2_1_0, c2_1_1, c2_1_2, c2_1_3, c2_2_0, c2_2_1, c2_2_2, c2_2_3] <;> omega) rfl ⟨rfl, HB2⟩
set_option maxHeartbeats 8000000 in
set_option maxRecDepth 100000 in
theorem polyptychref8_Cut.no2 (x y a b f : Int) (w : World) (hok : polyptychref8_none.f x y a b = some false) (hx1 : 0 ≤ x) (hx2 : x ≤ 1000) (hy1 : 0 ≤ y) (hy2 : y ≤ 1000) (ha1 : 0 ≤ a) (ha2 : a ≤ 1000) (hb1 : 0 ≤ b) (hb2 : b ≤ 1000) (h1 : 1 ≤ f) (h2 : ¬ f < b - 1) :
    Calls Try.prog 11 #[.agg #[.int .i64 x, .int .i64 y, .int .i64 a, .int .i64 b], .int .i64 2, .int .i64 f] w fun e w' => e = .returned (.tuple #[.agg #[.int .i64 0, .int .i64 0, .int .i64 0, .int .i64 0], .agg #[.int .i64 0, .int .i64 0, .int .i64 0, .int .i64 0], .agg #[.int .i64 0, .int .i64 0, .int .i64 0, .int .i64 0], .bool false]) ∧ Below w.heap.size w w' := by
  have hh := hide hok; clear hok
  have h3 : ¬ f < 1 := by omega
  have h2' : ¬ f ≤ b - 2 := by omega
  go_enter Try.func11, Try.ntmps11
  go_wp2_with (go_at_call 15; refine (polyptychref8_none.calls _ _ _ _ _ _ hh.out).mono ?_; rintro e w1 ⟨rfl, hb⟩)
  apply wp_letter4 (w.heap.size) w (w.heap.size) 23 (w.heap.size + 1) 23 (w.heap.size + 1 + 1) 23 (w.heap.size + 1 + 1 + 1) 23
  case h0 => (repeat (first | (with_reducible assumption) | (with_reducible apply bs_same) | (with_reducible apply bs_far; case hp => (dsimp only; omega)) | (with_reducible apply bs_drew) | (with_reducible apply bs_drewN) | (with_reducible apply bs_new; (first | (with_reducible rfl) | (simp; done))) | (with_reducible apply bs_alloc) | (with_reducible apply bs_below; (case hb => with_reducible assumption); (case hB => first | omega | (simp; omega) | (simp; done)))))
  case h1 => (repeat (first | (with_reducible assumption) | (with_reducible apply bs_same) | (with_reducible apply bs_far; case hp => (dsimp only; omega)) | (with_reducible apply bs_drew) | (with_reducible apply bs_drewN) | (with_reducible apply bs_new; (first | (with_reducible rfl) | (simp; done))) | (with_reducible apply bs_alloc) | (with_reducible apply bs_below; (case hb => with_reducible assumption); (case hB => first | omega | (simp; omega) | (simp; done)))))
  case h2 => (repeat (first | (with_reducible assumption) | (with_reducible apply bs_same) | (with_reducible apply bs_far; case hp => (dsimp only; omega)) | (with_reducible apply bs_drew) | (with_reducible apply bs_drewN) | (with_reducible apply bs_new; (first | (with_reducible rfl) | (simp; done))) | (with_reducible apply bs_alloc) | (with_reducible apply bs_below; (case hb => with_reducible assumption); (case hB => first | omega | (simp; omega) | (simp; done)))))
  case h3 => (repeat (first | (with_reducible assumption) | (with_reducible apply bs_same) | (with_reducible apply bs_far; case hp => (dsimp only; omega)) | (with_reducible apply bs_drew) | (with_reducible apply bs_drewN) | (with_reducible apply bs_new; (first | (with_reducible rfl) | (simp; done))) | (with_reducible apply bs_alloc) | (with_reducible apply bs_below; (case hb => with_reducible assumption); (case hB => first | omega | (simp; omega) | (simp; done)))))
  case hb => (repeat (first | (with_reducible assumption) | with_reducible exact be_refl _ | (with_reducible refine be_set ?_ (by dsimp only; omega)) | (with_reducible apply be_drew) | (with_reducible apply be_drewN) | (with_reducible refine be_alloc ?_ (by first | omega | (simp; omega) | simp)) | (with_reducible refine be_call (by with_reducible assumption) (by first | omega | (simp; omega) | simp) ?_)))
  intro w1_ k1_0 k1_1 k1_2 k1_3 HB1
  try simp only [List.setIfInBounds_toArray, List.set_cons_zero, List.set_cons_succ] at k1_0 k1_1 k1_2 k1_3
  obtain ⟨c1_0_0, c1_0_1, c1_0_2, c1_0_3, f1_0⟩ := cells4 k1_0
  have s1_0 := bs_lt k1_0
  obtain ⟨c1_1_0, c1_1_1, c1_1_2, c1_1_3, f1_1⟩ := cells4 k1_1
  have s1_1 := bs_lt k1_1
  obtain ⟨c1_2_0, c1_2_1, c1_2_2, c1_2_3, f1_2⟩ := cells4 k1_2
  have s1_2 := bs_lt k1_2
  obtain ⟨c1_3_0, c1_3_1, c1_3_2, c1_3_3, f1_3⟩ := cells4 k1_3
  have s1_3 := bs_lt k1_3
  go_cut [10, 11, 12] (fun s10 s11 s12 wx => ∃ g10 g11 g12 : Nat, s10 = .pointer (some ⟨g10, 0, none⟩) ∧ s11 = .pointer (some ⟨g11, 0, none⟩) ∧ s12 = .pointer (some ⟨g12, 0, none⟩) ∧ wx.heap[w.heap.size]? = some (.cells #[.int .i64 x, .int .i64 y, .int .i64 a, .int .i64 b] 23 (0, 0)) ∧ wx.heap[w.heap.size + 1]? = some (.cells #[.int .i64 0, .int .i64 0, .int .i64 0, .int .i64 0] 23 (0, 0)) ∧ wx.heap[w.heap.size + 1 + 1]? = some (.cells #[.int .i64 0, .int .i64 0, .int .i64 0, .int .i64 0] 23 (0, 0)) ∧ wx.heap[w.heap.size + 1 + 1 + 1]? = some (.cells #[.int .i64 0, .int .i64 0, .int .i64 0, .int .i64 0] 23 (0, 0)) ∧ wx.heap[g10]? = some (.cells #[.int .i64 x, .int .i64 y, .int .i64 a, .int .i64 b] 23 (0, 0)) ∧ wx.heap[g11]? = some (.cells #[.int .i64 x, .int .i64 y, .int .i64 a, .int .i64 b] 23 (0, 0)) ∧ wx.heap[g12]? = some (.cells #[.int .i64 x, .int .i64 y, .int .i64 a, .int .i64 b] 23 (0, 0)) ∧ (w.heap.size + 3 < g10 ∧ w.heap.size + 3 < g11 ∧ w.heap.size + 3 < g12 ∧ g10 ≠ g11 ∧ g10 ≠ g12 ∧ g11 ≠ g12) ∧ Below w.heap.size w wx)
  case first =>
    have hz3 : w.heap.size + 3 < w1_.heap.size := by have := bs_lt k1_3; omega
    go_region
    all_goals (go_wp2_with fail; go_meet; refine ⟨_, _, _, rfl, rfl, rfl, ?_, ?_, ?_, ?_, ?_, ?_, ?_, ?_, ?_⟩ <;> first | ((repeat (first | (with_reducible assumption) | (with_reducible apply bs_same) | (with_reducible apply bs_far; case hp => (dsimp only; omega)) | (with_reducible apply bs_drew) | (with_reducible apply bs_drewN) | (with_reducible apply bs_new; (first | (with_reducible rfl) | (simp; done))) | (with_reducible apply bs_alloc) | (with_reducible apply bs_below; (case hb => with_reducible assumption); (case hB => first | omega | (simp; omega) | (simp; done))))); done) | ((repeat (first | (with_reducible assumption) | with_reducible exact be_refl _ | (with_reducible refine be_set ?_ (by dsimp only; omega)) | (with_reducible apply be_drew) | (with_reducible apply be_drewN) | (with_reducible refine be_alloc ?_ (by first | omega | (simp; omega) | simp)) | (with_reducible refine be_call (by with_reducible assumption) (by first | omega | (simp; omega) | simp) ?_))); done) | (refine ⟨?_, ?_, ?_, ?_, ?_, ?_⟩ <;> first | omega | (simp; omega) | (simp; done)))
  case rest =>
    obtain ⟨g10, g11, g12, rfl, rfl, rfl, q0, q1, q2, q3, q10, q11, q12, ⟨m1, m2, m3, m4, m5, m6⟩, HBc⟩ := hcut
    clear k1_0 k1_1 k1_2 k1_3 HB1 c1_0_0 c1_0_1 c1_0_2 c1_0_3 f1_0 s1_0 c1_1_0 c1_1_1 c1_1_2 c1_1_3 f1_1 s1_1 c1_2_0 c1_2_1 c1_2_2 c1_2_3 f1_2 s1_2 c1_3_0 c1_3_1 c1_3_2 c1_3_3 f1_3 s1_3 hb
    obtain ⟨cq0_0, cq0_1, cq0_2, cq0_3, fq0⟩ := cells4 q0; have sq0 := bs_lt q0
    obtain ⟨cq1_0, cq1_1, cq1_2, cq1_3, fq1⟩ := cells4 q1; have sq1 := bs_lt q1
    obtain ⟨cq2_0, cq2_1, cq2_2, cq2_3, fq2⟩ := cells4 q2; have sq2 := bs_lt q2
    obtain ⟨cq3_0, cq3_1, cq3_2, cq3_3, fq3⟩ := cells4 q3; have sq3 := bs_lt q3
    obtain ⟨cq10_0, cq10_1, cq10_2, cq10_3, fq10⟩ := cells4 q10; have sq10 := bs_lt q10
    obtain ⟨cq11_0, cq11_1, cq11_2, cq11_3, fq11⟩ := cells4 q11; have sq11 := bs_lt q11
    obtain ⟨cq12_0, cq12_1, cq12_2, cq12_3, fq12⟩ := cells4 q12; have sq12 := bs_lt q12
    go_wp2
    apply bp_letter3 (w.heap.size) w (w.heap.size + 1) 23 (w.heap.size + 1 + 1) 23 (w.heap.size + 1 + 1 + 1) 23
    case h0 => (repeat (first | (with_reducible assumption) | (with_reducible apply bs_same) | (with_reducible apply bs_far; case hp => (dsimp only; omega)) | (with_reducible apply bs_drew) | (with_reducible apply bs_drewN) | (with_reducible apply bs_new; (first | (with_reducible rfl) | (simp; done))) | (with_reducible apply bs_alloc) | (with_reducible apply bs_below; (case hb => with_reducible assumption); (case hB => first | omega | (simp; omega) | (simp; done)))))
    case h1 => (repeat (first | (with_reducible assumption) | (with_reducible apply bs_same) | (with_reducible apply bs_far; case hp => (dsimp only; omega)) | (with_reducible apply bs_drew) | (with_reducible apply bs_drewN) | (with_reducible apply bs_new; (first | (with_reducible rfl) | (simp; done))) | (with_reducible apply bs_alloc) | (with_reducible apply bs_below; (case hb => with_reducible assumption); (case hB => first | omega | (simp; omega) | (simp; done)))))
    case h2 => (repeat (first | (with_reducible assumption) | (with_reducible apply bs_same) | (with_reducible apply bs_far; case hp => (dsimp only; omega)) | (with_reducible apply bs_drew) | (with_reducible apply bs_drewN) | (with_reducible apply bs_new; (first | (with_reducible rfl) | (simp; done))) | (with_reducible apply bs_alloc) | (with_reducible apply bs_below; (case hb => with_reducible assumption); (case hB => first | omega | (simp; omega) | (simp; done)))))
    case hb => (repeat (first | (with_reducible assumption) | with_reducible exact be_refl _ | (with_reducible refine be_set ?_ (by dsimp only; omega)) | (with_reducible apply be_drew) | (with_reducible apply be_drewN) | (with_reducible refine be_alloc ?_ (by first | omega | (simp; omega) | simp)) | (with_reducible refine be_call (by with_reducible assumption) (by first | omega | (simp; omega) | simp) ?_)))
    intro w2_ k2_0 k2_1 k2_2 HB2
    try simp only [List.setIfInBounds_toArray, List.set_cons_zero, List.set_cons_succ] at k2_0 k2_1 k2_2
    clear cq0_0 cq0_1 cq0_2 cq0_3 fq0 sq0 q0 cq1_0 cq1_1 cq1_2 cq1_3 fq1 sq1 q1 cq2_0 cq2_1 cq2_2 cq2_3 fq2 sq2 q2 cq3_0 cq3_1 cq3_2 cq3_3 fq3 sq3 q3 cq10_0 cq10_1 cq10_2 cq10_3 fq10 sq10 q10 cq11_0 cq11_1 cq11_2 cq11_3 fq11 sq11 q11 cq12_0 cq12_1 cq12_2 cq12_3 fq12 sq12 q12 HBc
    obtain ⟨c2_0_0, c2_0_1, c2_0_2, c2_0_3, f2_0⟩ := cells4 k2_0
    have s2_0 := bs_lt k2_0
    obtain ⟨c2_1_0, c2_1_1, c2_1_2, c2_1_3, f2_1⟩ := cells4 k2_1
    have s2_1 := bs_lt k2_1
    obtain ⟨c2_2_0, c2_2_1, c2_2_2, c2_2_3, f2_2⟩ := cells4 k2_2
    have s2_2 := bs_lt k2_2
    exact bodyPost_ret (v := .tuple #[.agg #[.int .i64 0, .int .i64 0, .int .i64 0, .int .i64 0], .agg #[.int .i64 0, .int .i64 0, .int .i64 0, .int .i64 0], .agg #[.int .i64 0, .int .i64 0, .int .i64 0, .int .i64 0], .bool false]) (by simp [results, Try.results11, go_sem, c2_0_0, c2_0_1, c2_0_2, c2_0_3, c2_1_0, c2_1_1, c2_1_2, c2_1_3, c2_2_0, c2_2_1, c2_2_2, c2_2_3] <;> omega) rfl ⟨rfl, HB2⟩
set_option maxHeartbeats 8000000 in
set_option maxRecDepth 100000 in
theorem polyptychref8_Cut.no3 (x y a b d f : Int) (w : World) (hok : polyptychref8_none.f x y a b = some false) (hx1 : 0 ≤ x) (hx2 : x ≤ 1000) (hy1 : 0 ≤ y) (hy2 : y ≤ 1000) (ha1 : 0 ≤ a) (ha2 : a ≤ 1000) (hb1 : 0 ≤ b) (hb2 : b ≤ 1000) (h1 : 1 ≤ f) (h2 : ¬ d = 1) (h2b : ¬ d = 2) :
    Calls Try.prog 11 #[.agg #[.int .i64 x, .int .i64 y, .int .i64 a, .int .i64 b], .int .i64 d, .int .i64 f] w fun e w' => e = .returned (.tuple #[.agg #[.int .i64 0, .int .i64 0, .int .i64 0, .int .i64 0], .agg #[.int .i64 0, .int .i64 0, .int .i64 0, .int .i64 0], .agg #[.int .i64 0, .int .i64 0, .int .i64 0, .int .i64 0], .bool false]) ∧ Below w.heap.size w w' := by
  have hh := hide hok; clear hok
  have h3 : ¬ f < 1 := by omega
  have e1 : (d == 1) = false := by simpa using h2
  have e2 : (d == 2) = false := by simpa using h2b
  go_enter Try.func11, Try.ntmps11
  go_wp2_with (go_at_call 15; refine (polyptychref8_none.calls _ _ _ _ _ _ hh.out).mono ?_; rintro e w1 ⟨rfl, hb⟩)
  apply wp_letter4 (w.heap.size) w (w.heap.size) 23 (w.heap.size + 1) 23 (w.heap.size + 1 + 1) 23 (w.heap.size + 1 + 1 + 1) 23
  case h0 => (repeat (first | (with_reducible assumption) | (with_reducible apply bs_same) | (with_reducible apply bs_far; case hp => (dsimp only; omega)) | (with_reducible apply bs_drew) | (with_reducible apply bs_drewN) | (with_reducible apply bs_new; (first | (with_reducible rfl) | (simp; done))) | (with_reducible apply bs_alloc) | (with_reducible apply bs_below; (case hb => with_reducible assumption); (case hB => first | omega | (simp; omega) | (simp; done)))))
  case h1 => (repeat (first | (with_reducible assumption) | (with_reducible apply bs_same) | (with_reducible apply bs_far; case hp => (dsimp only; omega)) | (with_reducible apply bs_drew) | (with_reducible apply bs_drewN) | (with_reducible apply bs_new; (first | (with_reducible rfl) | (simp; done))) | (with_reducible apply bs_alloc) | (with_reducible apply bs_below; (case hb => with_reducible assumption); (case hB => first | omega | (simp; omega) | (simp; done)))))
  case h2 => (repeat (first | (with_reducible assumption) | (with_reducible apply bs_same) | (with_reducible apply bs_far; case hp => (dsimp only; omega)) | (with_reducible apply bs_drew) | (with_reducible apply bs_drewN) | (with_reducible apply bs_new; (first | (with_reducible rfl) | (simp; done))) | (with_reducible apply bs_alloc) | (with_reducible apply bs_below; (case hb => with_reducible assumption); (case hB => first | omega | (simp; omega) | (simp; done)))))
  case h3 => (repeat (first | (with_reducible assumption) | (with_reducible apply bs_same) | (with_reducible apply bs_far; case hp => (dsimp only; omega)) | (with_reducible apply bs_drew) | (with_reducible apply bs_drewN) | (with_reducible apply bs_new; (first | (with_reducible rfl) | (simp; done))) | (with_reducible apply bs_alloc) | (with_reducible apply bs_below; (case hb => with_reducible assumption); (case hB => first | omega | (simp; omega) | (simp; done)))))
  case hb => (repeat (first | (with_reducible assumption) | with_reducible exact be_refl _ | (with_reducible refine be_set ?_ (by dsimp only; omega)) | (with_reducible apply be_drew) | (with_reducible apply be_drewN) | (with_reducible refine be_alloc ?_ (by first | omega | (simp; omega) | simp)) | (with_reducible refine be_call (by with_reducible assumption) (by first | omega | (simp; omega) | simp) ?_)))
  intro w1_ k1_0 k1_1 k1_2 k1_3 HB1
  try simp only [List.setIfInBounds_toArray, List.set_cons_zero, List.set_cons_succ] at k1_0 k1_1 k1_2 k1_3
  obtain ⟨c1_0_0, c1_0_1, c1_0_2, c1_0_3, f1_0⟩ := cells4 k1_0
  have s1_0 := bs_lt k1_0
  obtain ⟨c1_1_0, c1_1_1, c1_1_2, c1_1_3, f1_1⟩ := cells4 k1_1
  have s1_1 := bs_lt k1_1
  obtain ⟨c1_2_0, c1_2_1, c1_2_2, c1_2_3, f1_2⟩ := cells4 k1_2
  have s1_2 := bs_lt k1_2
  obtain ⟨c1_3_0, c1_3_1, c1_3_2, c1_3_3, f1_3⟩ := cells4 k1_3
  have s1_3 := bs_lt k1_3
  go_cut [10, 11, 12] (fun s10 s11 s12 wx => ∃ g10 g11 g12 : Nat, s10 = .pointer (some ⟨g10, 0, none⟩) ∧ s11 = .pointer (some ⟨g11, 0, none⟩) ∧ s12 = .pointer (some ⟨g12, 0, none⟩) ∧ wx.heap[w.heap.size]? = some (.cells #[.int .i64 x, .int .i64 y, .int .i64 a, .int .i64 b] 23 (0, 0)) ∧ wx.heap[w.heap.size + 1]? = some (.cells #[.int .i64 0, .int .i64 0, .int .i64 0, .int .i64 0] 23 (0, 0)) ∧ wx.heap[w.heap.size + 1 + 1]? = some (.cells #[.int .i64 0, .int .i64 0, .int .i64 0, .int .i64 0] 23 (0, 0)) ∧ wx.heap[w.heap.size + 1 + 1 + 1]? = some (.cells #[.int .i64 0, .int .i64 0, .int .i64 0, .int .i64 0] 23 (0, 0)) ∧ wx.heap[g10]? = some (.cells #[.int .i64 x, .int .i64 y, .int .i64 a, .int .i64 b] 23 (0, 0)) ∧ wx.heap[g11]? = some (.cells #[.int .i64 x, .int .i64 y, .int .i64 a, .int .i64 b] 23 (0, 0)) ∧ wx.heap[g12]? = some (.cells #[.int .i64 x, .int .i64 y, .int .i64 a, .int .i64 b] 23 (0, 0)) ∧ (w.heap.size + 3 < g10 ∧ w.heap.size + 3 < g11 ∧ w.heap.size + 3 < g12 ∧ g10 ≠ g11 ∧ g10 ≠ g12 ∧ g11 ≠ g12) ∧ Below w.heap.size w wx)
  case first =>
    have hz3 : w.heap.size + 3 < w1_.heap.size := by have := bs_lt k1_3; omega
    go_region
    all_goals (go_wp2_with fail; go_meet; refine ⟨_, _, _, rfl, rfl, rfl, ?_, ?_, ?_, ?_, ?_, ?_, ?_, ?_, ?_⟩ <;> first | ((repeat (first | (with_reducible assumption) | (with_reducible apply bs_same) | (with_reducible apply bs_far; case hp => (dsimp only; omega)) | (with_reducible apply bs_drew) | (with_reducible apply bs_drewN) | (with_reducible apply bs_new; (first | (with_reducible rfl) | (simp; done))) | (with_reducible apply bs_alloc) | (with_reducible apply bs_below; (case hb => with_reducible assumption); (case hB => first | omega | (simp; omega) | (simp; done))))); done) | ((repeat (first | (with_reducible assumption) | with_reducible exact be_refl _ | (with_reducible refine be_set ?_ (by dsimp only; omega)) | (with_reducible apply be_drew) | (with_reducible apply be_drewN) | (with_reducible refine be_alloc ?_ (by first | omega | (simp; omega) | simp)) | (with_reducible refine be_call (by with_reducible assumption) (by first | omega | (simp; omega) | simp) ?_))); done) | (refine ⟨?_, ?_, ?_, ?_, ?_, ?_⟩ <;> first | omega | (simp; omega) | (simp; done)))
  case rest =>
    obtain ⟨g10, g11, g12, rfl, rfl, rfl, q0, q1, q2, q3, q10, q11, q12, ⟨m1, m2, m3, m4, m5, m6⟩, HBc⟩ := hcut
    clear k1_0 k1_1 k1_2 k1_3 HB1 c1_0_0 c1_0_1 c1_0_2 c1_0_3 f1_0 s1_0 c1_1_0 c1_1_1 c1_1_2 c1_1_3 f1_1 s1_1 c1_2_0 c1_2_1 c1_2_2 c1_2_3 f1_2 s1_2 c1_3_0 c1_3_1 c1_3_2 c1_3_3 f1_3 s1_3 hb
    obtain ⟨cq0_0, cq0_1, cq0_2, cq0_3, fq0⟩ := cells4 q0; have sq0 := bs_lt q0
    obtain ⟨cq1_0, cq1_1, cq1_2, cq1_3, fq1⟩ := cells4 q1; have sq1 := bs_lt q1
    obtain ⟨cq2_0, cq2_1, cq2_2, cq2_3, fq2⟩ := cells4 q2; have sq2 := bs_lt q2
    obtain ⟨cq3_0, cq3_1, cq3_2, cq3_3, fq3⟩ := cells4 q3; have sq3 := bs_lt q3
    obtain ⟨cq10_0, cq10_1, cq10_2, cq10_3, fq10⟩ := cells4 q10; have sq10 := bs_lt q10
    obtain ⟨cq11_0, cq11_1, cq11_2, cq11_3, fq11⟩ := cells4 q11; have sq11 := bs_lt q11
    obtain ⟨cq12_0, cq12_1, cq12_2, cq12_3, fq12⟩ := cells4 q12; have sq12 := bs_lt q12
    go_wp2
    apply bp_letter3 (w.heap.size) w (w.heap.size + 1) 23 (w.heap.size + 1 + 1) 23 (w.heap.size + 1 + 1 + 1) 23
    case h0 => (repeat (first | (with_reducible assumption) | (with_reducible apply bs_same) | (with_reducible apply bs_far; case hp => (dsimp only; omega)) | (with_reducible apply bs_drew) | (with_reducible apply bs_drewN) | (with_reducible apply bs_new; (first | (with_reducible rfl) | (simp; done))) | (with_reducible apply bs_alloc) | (with_reducible apply bs_below; (case hb => with_reducible assumption); (case hB => first | omega | (simp; omega) | (simp; done)))))
    case h1 => (repeat (first | (with_reducible assumption) | (with_reducible apply bs_same) | (with_reducible apply bs_far; case hp => (dsimp only; omega)) | (with_reducible apply bs_drew) | (with_reducible apply bs_drewN) | (with_reducible apply bs_new; (first | (with_reducible rfl) | (simp; done))) | (with_reducible apply bs_alloc) | (with_reducible apply bs_below; (case hb => with_reducible assumption); (case hB => first | omega | (simp; omega) | (simp; done)))))
    case h2 => (repeat (first | (with_reducible assumption) | (with_reducible apply bs_same) | (with_reducible apply bs_far; case hp => (dsimp only; omega)) | (with_reducible apply bs_drew) | (with_reducible apply bs_drewN) | (with_reducible apply bs_new; (first | (with_reducible rfl) | (simp; done))) | (with_reducible apply bs_alloc) | (with_reducible apply bs_below; (case hb => with_reducible assumption); (case hB => first | omega | (simp; omega) | (simp; done)))))
    case hb => (repeat (first | (with_reducible assumption) | with_reducible exact be_refl _ | (with_reducible refine be_set ?_ (by dsimp only; omega)) | (with_reducible apply be_drew) | (with_reducible apply be_drewN) | (with_reducible refine be_alloc ?_ (by first | omega | (simp; omega) | simp)) | (with_reducible refine be_call (by with_reducible assumption) (by first | omega | (simp; omega) | simp) ?_)))
    intro w2_ k2_0 k2_1 k2_2 HB2
    try simp only [List.setIfInBounds_toArray, List.set_cons_zero, List.set_cons_succ] at k2_0 k2_1 k2_2
    clear cq0_0 cq0_1 cq0_2 cq0_3 fq0 sq0 q0 cq1_0 cq1_1 cq1_2 cq1_3 fq1 sq1 q1 cq2_0 cq2_1 cq2_2 cq2_3 fq2 sq2 q2 cq3_0 cq3_1 cq3_2 cq3_3 fq3 sq3 q3 cq10_0 cq10_1 cq10_2 cq10_3 fq10 sq10 q10 cq11_0 cq11_1 cq11_2 cq11_3 fq11 sq11 q11 cq12_0 cq12_1 cq12_2 cq12_3 fq12 sq12 q12 HBc
    obtain ⟨c2_0_0, c2_0_1, c2_0_2, c2_0_3, f2_0⟩ := cells4 k2_0
    have s2_0 := bs_lt k2_0
    obtain ⟨c2_1_0, c2_1_1, c2_1_2, c2_1_3, f2_1⟩ := cells4 k2_1
    have s2_1 := bs_lt k2_1
    obtain ⟨c2_2_0, c2_2_1, c2_2_2, c2_2_3, f2_2⟩ := cells4 k2_2
    have s2_2 := bs_lt k2_2
    exact bodyPost_ret (v := .tuple #[.agg #[.int .i64 0, .int .i64 0, .int .i64 0, .int .i64 0], .agg #[.int .i64 0, .int .i64 0, .int .i64 0, .int .i64 0], .agg #[.int .i64 0, .int .i64 0, .int .i64 0, .int .i64 0], .bool false]) (by simp [results, Try.results11, go_sem, c2_0_0, c2_0_1, c2_0_2, c2_0_3, c2_1_0, c2_1_1, c2_1_2, c2_1_3, c2_2_0, c2_2_1, c2_2_2, c2_2_3] <;> omega) rfl ⟨rfl, HB2⟩
set_option maxHeartbeats 8000000 in
set_option maxRecDepth 100000 in
theorem polyptychref8_Cut.no4 (x y a b d f : Int) (w : World) (hok : polyptychref8_none.f x y a b = some false) (hx1 : 0 ≤ x) (hx2 : x ≤ 1000) (hy1 : 0 ≤ y) (hy2 : y ≤ 1000) (ha1 : 0 ≤ a) (ha2 : a ≤ 1000) (hb1 : 0 ≤ b) (hb2 : b ≤ 1000) (h1 : f < 1) :
    Calls Try.prog 11 #[.agg #[.int .i64 x, .int .i64 y, .int .i64 a, .int .i64 b], .int .i64 d, .int .i64 f] w fun e w' => e = .returned (.tuple #[.agg #[.int .i64 0, .int .i64 0, .int .i64 0, .int .i64 0], .agg #[.int .i64 0, .int .i64 0, .int .i64 0, .int .i64 0], .agg #[.int .i64 0, .int .i64 0, .int .i64 0, .int .i64 0], .bool false]) ∧ Below w.heap.size w w' := by
  have hh := hide hok; clear hok
  go_enter Try.func11, Try.ntmps11
  go_wp2_with (go_at_call 15; refine (polyptychref8_none.calls _ _ _ _ _ _ hh.out).mono ?_; rintro e w1 ⟨rfl, hb⟩; obtain ⟨hc, hf⟩ := be_cells hb; have hz := hb.size)
  apply bp_letter3 (w.heap.size) w (w.heap.size + 1) 23 (w.heap.size + 1 + 1) 23 (w.heap.size + 1 + 1 + 1) 23
  case h0 => (repeat (first | (with_reducible assumption) | (with_reducible apply bs_same) | (with_reducible apply bs_far; case hp => (dsimp only; omega)) | (with_reducible apply bs_drew) | (with_reducible apply bs_drewN) | (with_reducible apply bs_new; (first | (with_reducible rfl) | (simp; done))) | (with_reducible apply bs_alloc) | (with_reducible apply bs_below; (case hb => with_reducible assumption); (case hB => first | omega | (simp; omega) | (simp; done)))))
  case h1 => (repeat (first | (with_reducible assumption) | (with_reducible apply bs_same) | (with_reducible apply bs_far; case hp => (dsimp only; omega)) | (with_reducible apply bs_drew) | (with_reducible apply bs_drewN) | (with_reducible apply bs_new; (first | (with_reducible rfl) | (simp; done))) | (with_reducible apply bs_alloc) | (with_reducible apply bs_below; (case hb => with_reducible assumption); (case hB => first | omega | (simp; omega) | (simp; done)))))
  case h2 => (repeat (first | (with_reducible assumption) | (with_reducible apply bs_same) | (with_reducible apply bs_far; case hp => (dsimp only; omega)) | (with_reducible apply bs_drew) | (with_reducible apply bs_drewN) | (with_reducible apply bs_new; (first | (with_reducible rfl) | (simp; done))) | (with_reducible apply bs_alloc) | (with_reducible apply bs_below; (case hb => with_reducible assumption); (case hB => first | omega | (simp; omega) | (simp; done)))))
  case hb => (repeat (first | (with_reducible assumption) | with_reducible exact be_refl _ | (with_reducible refine be_set ?_ (by dsimp only; omega)) | (with_reducible apply be_drew) | (with_reducible apply be_drewN) | (with_reducible refine be_alloc ?_ (by first | omega | (simp; omega) | simp)) | (with_reducible refine be_call (by with_reducible assumption) (by first | omega | (simp; omega) | simp) ?_)))
  intro w1_ k1_0 k1_1 k1_2 HB1
  try simp only [List.setIfInBounds_toArray, List.set_cons_zero, List.set_cons_succ] at k1_0 k1_1 k1_2
  obtain ⟨c1_0_0, c1_0_1, c1_0_2, c1_0_3, f1_0⟩ := cells4 k1_0
  have s1_0 := bs_lt k1_0
  obtain ⟨c1_1_0, c1_1_1, c1_1_2, c1_1_3, f1_1⟩ := cells4 k1_1
  have s1_1 := bs_lt k1_1
  obtain ⟨c1_2_0, c1_2_1, c1_2_2, c1_2_3, f1_2⟩ := cells4 k1_2
  have s1_2 := bs_lt k1_2
  exact bodyPost_ret (v := .tuple #[.agg #[.int .i64 0, .int .i64 0, .int .i64 0, .int .i64 0], .agg #[.int .i64 0, .int .i64 0, .int .i64 0, .int .i64 0], .agg #[.int .i64 0, .int .i64 0, .int .i64 0, .int .i64 0], .bool false]) (by simp [results, Try.results11, go_sem, c1_0_0, c1_0_1, c1_0_2, c1_0_3, c1_1_0, c1_1_1, c1_1_2, c1_1_3, c1_2_0, c1_2_1, c1_2_2, c1_2_3] <;> omega) rfl ⟨rfl, HB1⟩
set_option maxHeartbeats 8000000 in
set_option maxRecDepth 100000 in
theorem polyptychref8_Cut.no5 (x y a b d f : Int) (w : World) (hok : polyptychref8_none.f x y a b = some true)  :
    Calls Try.prog 11 #[.agg #[.int .i64 x, .int .i64 y, .int .i64 a, .int .i64 b], .int .i64 d, .int .i64 f] w fun e w' => e = .returned (.tuple #[.agg #[.int .i64 0, .int .i64 0, .int .i64 0, .int .i64 0], .agg #[.int .i64 0, .int .i64 0, .int .i64 0, .int .i64 0], .agg #[.int .i64 0, .int .i64 0, .int .i64 0, .int .i64 0], .bool false]) ∧ Below w.heap.size w w' := by
  have hh := hide hok; clear hok
  go_enter Try.func11, Try.ntmps11
  go_wp2_with (go_at_call 15; refine (polyptychref8_none.calls _ _ _ _ _ _ hh.out).mono ?_; rintro e w1 ⟨rfl, hb⟩; obtain ⟨hc, hf⟩ := be_cells hb; have hz := hb.size)
  apply bp_letter3 (w.heap.size) w (w.heap.size + 1) 23 (w.heap.size + 1 + 1) 23 (w.heap.size + 1 + 1 + 1) 23
  case h0 => (repeat (first | (with_reducible assumption) | (with_reducible apply bs_same) | (with_reducible apply bs_far; case hp => (dsimp only; omega)) | (with_reducible apply bs_drew) | (with_reducible apply bs_drewN) | (with_reducible apply bs_new; (first | (with_reducible rfl) | (simp; done))) | (with_reducible apply bs_alloc) | (with_reducible apply bs_below; (case hb => with_reducible assumption); (case hB => first | omega | (simp; omega) | (simp; done)))))
  case h1 => (repeat (first | (with_reducible assumption) | (with_reducible apply bs_same) | (with_reducible apply bs_far; case hp => (dsimp only; omega)) | (with_reducible apply bs_drew) | (with_reducible apply bs_drewN) | (with_reducible apply bs_new; (first | (with_reducible rfl) | (simp; done))) | (with_reducible apply bs_alloc) | (with_reducible apply bs_below; (case hb => with_reducible assumption); (case hB => first | omega | (simp; omega) | (simp; done)))))
  case h2 => (repeat (first | (with_reducible assumption) | (with_reducible apply bs_same) | (with_reducible apply bs_far; case hp => (dsimp only; omega)) | (with_reducible apply bs_drew) | (with_reducible apply bs_drewN) | (with_reducible apply bs_new; (first | (with_reducible rfl) | (simp; done))) | (with_reducible apply bs_alloc) | (with_reducible apply bs_below; (case hb => with_reducible assumption); (case hB => first | omega | (simp; omega) | (simp; done)))))
  case hb => (repeat (first | (with_reducible assumption) | with_reducible exact be_refl _ | (with_reducible refine be_set ?_ (by dsimp only; omega)) | (with_reducible apply be_drew) | (with_reducible apply be_drewN) | (with_reducible refine be_alloc ?_ (by first | omega | (simp; omega) | simp)) | (with_reducible refine be_call (by with_reducible assumption) (by first | omega | (simp; omega) | simp) ?_)))
  intro w1_ k1_0 k1_1 k1_2 HB1
  try simp only [List.setIfInBounds_toArray, List.set_cons_zero, List.set_cons_succ] at k1_0 k1_1 k1_2
  obtain ⟨c1_0_0, c1_0_1, c1_0_2, c1_0_3, f1_0⟩ := cells4 k1_0
  have s1_0 := bs_lt k1_0
  obtain ⟨c1_1_0, c1_1_1, c1_1_2, c1_1_3, f1_1⟩ := cells4 k1_1
  have s1_1 := bs_lt k1_1
  obtain ⟨c1_2_0, c1_2_1, c1_2_2, c1_2_3, f1_2⟩ := cells4 k1_2
  have s1_2 := bs_lt k1_2
  exact bodyPost_ret (v := .tuple #[.agg #[.int .i64 0, .int .i64 0, .int .i64 0, .int .i64 0], .agg #[.int .i64 0, .int .i64 0, .int .i64 0, .int .i64 0], .agg #[.int .i64 0, .int .i64 0, .int .i64 0, .int .i64 0], .bool false]) (by simp [results, Try.results11, go_sem, c1_0_0, c1_0_1, c1_0_2, c1_0_3, c1_1_0, c1_1_1, c1_1_2, c1_1_3, c1_2_0, c1_2_1, c1_2_2, c1_2_3] <;> omega) rfl ⟨rfl, HB1⟩
def polyptychref8_Cut.f (x y a b d f : Int) : Option (Int × Int × Int × Int × Int × Int × Int × Int × Int × Int × Int × Int × Bool) := (polyptychref8_none.f x y a b).bind fun ok => if ok = false then (if f < 1 then some (0, 0, 0, 0, 0, 0, 0, 0, 0, 0, 0, 0, false) else if d = 1 then (if f < a - 1 then some (x, y, f, b, x + f, y, 1, b, x + f + 1, y, a - f - 1, b, true) else some (0, 0, 0, 0, 0, 0, 0, 0, 0, 0, 0, 0, false)) else if d = 2 then (if f < b - 1 then some (x, y, a, f, x, y + f, a, 1, x, y + f + 1, a, b - f - 1, true) else some (0, 0, 0, 0, 0, 0, 0, 0, 0, 0, 0, 0, false)) else some (0, 0, 0, 0, 0, 0, 0, 0, 0, 0, 0, 0, false)) else some (0, 0, 0, 0, 0, 0, 0, 0, 0, 0, 0, 0, false)
theorem polyptychref8_Cut.calls (a0_0 : Int) (a0_1 : Int) (a0_2 : Int) (a0_3 : Int) (a1 : Int) (a2 : Int) (r1 : Int) (r2 : Int) (r3 : Int) (r4 : Int) (r5 : Int) (r6 : Int) (r7 : Int) (r8 : Int) (r9 : Int) (r10 : Int) (r11 : Int) (r12 : Int) (r13 : Bool) (w : World) (h : polyptychref8_Cut.f a0_0 a0_1 a0_2 a0_3 a1 a2 = some (r1, r2, r3, r4, r5, r6, r7, r8, r9, r10, r11, r12, r13)) :
    Calls Try.prog 11 #[.agg #[.int .i64 a0_0, .int .i64 a0_1, .int .i64 a0_2, .int .i64 a0_3], .int .i64 a1, .int .i64 a2] w fun e w' => e = .returned (.tuple #[.agg #[.int .i64 r1, .int .i64 r2, .int .i64 r3, .int .i64 r4], .agg #[.int .i64 r5, .int .i64 r6, .int .i64 r7, .int .i64 r8], .agg #[.int .i64 r9, .int .i64 r10, .int .i64 r11, .int .i64 r12], .bool r13]) ∧ Below w.heap.size w w' := by
  unfold polyptychref8_Cut.f at h
  obtain ⟨ok, hok, h⟩ := Option.bind_eq_some_iff.mp h
  by_cases e : ok = false
  · subst e
    rw [if_pos rfl] at h
    obtain ⟨⟨hx1, hx2⟩, ⟨hy1, hy2⟩, ⟨ha1, ha2⟩, hb1, hb2⟩ := polyptychref8_none.bounds hok
    by_cases h1 : a2 < 1
    · rw [if_pos h1] at h
      injection h with h; simp only [Prod.mk.injEq] at h
      obtain ⟨rfl, rfl, rfl, rfl, rfl, rfl, rfl, rfl, rfl, rfl, rfl, rfl, rfl⟩ := h
      exact polyptychref8_Cut.no4 _ _ _ _ _ _ w hok hx1 hx2 hy1 hy2 ha1 ha2 hb1 hb2 h1
    · rw [if_neg h1] at h
      by_cases h2 : a1 = 1
      · subst h2
        rw [if_pos rfl] at h
        by_cases h3 : a2 < a0_2 - 1
        · rw [if_pos h3] at h
          injection h with h; simp only [Prod.mk.injEq] at h
          obtain ⟨rfl, rfl, rfl, rfl, rfl, rfl, rfl, rfl, rfl, rfl, rfl, rfl, rfl⟩ := h
          exact polyptychref8_Cut.right _ _ _ _ _ w hok hx1 hx2 hy1 hy2 ha1 ha2 hb1 hb2 (by omega) h3
        · rw [if_neg h3] at h
          injection h with h; simp only [Prod.mk.injEq] at h
          obtain ⟨rfl, rfl, rfl, rfl, rfl, rfl, rfl, rfl, rfl, rfl, rfl, rfl, rfl⟩ := h
          exact polyptychref8_Cut.no1 _ _ _ _ _ w hok hx1 hx2 hy1 hy2 ha1 ha2 hb1 hb2 (by omega) h3
      · rw [if_neg h2] at h
        by_cases h4 : a1 = 2
        · subst h4
          rw [if_pos rfl] at h
          by_cases h3 : a2 < a0_3 - 1
          · rw [if_pos h3] at h
            injection h with h; simp only [Prod.mk.injEq] at h
            obtain ⟨rfl, rfl, rfl, rfl, rfl, rfl, rfl, rfl, rfl, rfl, rfl, rfl, rfl⟩ := h
            exact polyptychref8_Cut.down _ _ _ _ _ w hok hx1 hx2 hy1 hy2 ha1 ha2 hb1 hb2 (by omega) h3
          · rw [if_neg h3] at h
            injection h with h; simp only [Prod.mk.injEq] at h
            obtain ⟨rfl, rfl, rfl, rfl, rfl, rfl, rfl, rfl, rfl, rfl, rfl, rfl, rfl⟩ := h
            exact polyptychref8_Cut.no2 _ _ _ _ _ w hok hx1 hx2 hy1 hy2 ha1 ha2 hb1 hb2 (by omega) h3
        · rw [if_neg h4] at h
          injection h with h; simp only [Prod.mk.injEq] at h
          obtain ⟨rfl, rfl, rfl, rfl, rfl, rfl, rfl, rfl, rfl, rfl, rfl, rfl, rfl⟩ := h
          exact polyptychref8_Cut.no3 _ _ _ _ _ _ w hok hx1 hx2 hy1 hy2 ha1 ha2 hb1 hb2 (by omega) h2 h4
  · rw [if_neg e] at h
    injection h with h; simp only [Prod.mk.injEq] at h
    obtain ⟨rfl, rfl, rfl, rfl, rfl, rfl, rfl, rfl, rfl, rfl, rfl, rfl, rfl⟩ := h
    have e' : ok = true := by cases ok <;> simp_all
    subst e'
    exact polyptychref8_Cut.no5 _ _ _ _ _ _ w hok

end


/-! ### polyptychref8_In: function 12 -/
def polyptychref8_In.f (a0_0 : Int) (a0_1 : Int) (a0_2 : Int) (a0_3 : Int) (a1 : Int) (a2 : Int) : Option (Bool) := (polyptychref8_none.f a0_0 a0_1 a0_2 a0_3).bind fun t112 => (if t112 = true then (some false) else (if a1 ≥ a0_0 then (if a2 ≥ a0_1 then (if (wrap64 (a1 - a0_0)) < a0_2 then (some (decide ((wrap64 (a2 - a0_1)) < a0_3))) else (some false)) else (some false)) else (some false)))
set_option maxHeartbeats 8000000 in
set_option maxRecDepth 100000 in
theorem polyptychref8_In.calls (a0_0 : Int) (a0_1 : Int) (a0_2 : Int) (a0_3 : Int) (a1 : Int) (a2 : Int) (r : Bool) (w : World) (h : polyptychref8_In.f a0_0 a0_1 a0_2 a0_3 a1 a2 = some r) :
    Calls Try.prog 12 #[.agg #[.int .i64 a0_0, .int .i64 a0_1, .int .i64 a0_2, .int .i64 a0_3], .int .i64 a1, .int .i64 a2] w fun e w' => e = .returned (.bool r) ∧ Below w.heap.size w w' := by
  have hu23 := Try.underlying23
  have HB := Aside0.mk (Below.refl w.heap.size w)
  have H : ((polyptychref8_none.f a0_0 a0_1 a0_2 a0_3).bind fun t112 => (if t112 = true then (some false) else (if a1 ≥ a0_0 then (if a2 ≥ a0_1 then (if (wrap64 (a1 - a0_0)) < a0_2 then (some (decide ((wrap64 (a2 - a0_1)) < a0_3))) else (some false)) else (some false)) else (some false)))) = some r := h
  clear h
  replace H := Option.bind_eq_some_iff.mp H
  obtain ⟨t112, A40, H⟩ := H
  replace H : (if t112 = true then (some false) else (if a1 ≥ a0_0 then (if a2 ≥ a0_1 then (if (wrap64 (a1 - a0_0)) < a0_2 then (some (decide ((wrap64 (a2 - a0_1)) < a0_3))) else (some false)) else (some false)) else (some false))) = some r := H
  have A4 := Aside0.mk A40
  clear A40
  by_cases c5 : t112 = true
  · subst c5
    have H1 : (some false) = some r := by rw [if_pos rfl] at H; exact H
    clear H
    have H := H1
    clear H1
    obtain rfl := Option.some.inj H
    go_enter Try.func12, Try.ntmps12
    go_wp2_with (first | ((with_reducible refine gate_dst (N := 3) rfl ?_); refine box_event ?hg (N := 3) ?hd (cs := #[.int .i64 a0_0, .int .i64 a0_1, .int .i64 a0_2, .int .i64 a0_3]) (t := 23) ?hr ?_; (case hd => rfl); (case hg => rfl); (case hr => first | (go_simp; done) | (go_simp; rfl)); intro gb111 hg w6 hbox hb; have n0_ := Aside0.mk (below_step (by repeat (first | (with_reducible first | exact HB.out | apply below_alloc | apply pw_below_drewN | apply below_drew1) | exact HB.out)) hb); have n1_ := Aside0.mk (hbox); have n2_ := Aside0.mk ((by rw [hg]; exact (below_size (by repeat (first | (with_reducible first | exact HB.out | apply below_alloc | apply pw_below_drewN | apply below_drew1) | exact HB.out))) : w.heap.size ≤ gb111)); have n3_ := Aside0.mk ((by rw [hg]; exact (below_size (by repeat (first | (with_reducible first | exact HB.out | apply below_alloc | apply pw_below_drewN | apply below_drew1) | exact HB.out))) : w.heap.size ≤ gb111)); clear HB; have HB := n0_; have BK111 := n1_; have GW111 := n2_; have GE111 := n3_; clear n0_ n1_ n2_ n3_; clear hb hbox hg; have hcz7_0 : w6.cell? ⟨gb111, 0, none⟩ = some (.int .i64 a0_0) := (blk_cell BK111.out 0).trans rfl; have hcz7_1 : w6.cell? ⟨gb111, 1, none⟩ = some (.int .i64 a0_1) := (blk_cell BK111.out 1).trans rfl; have hcz7_2 : w6.cell? ⟨gb111, 2, none⟩ = some (.int .i64 a0_2) := (blk_cell BK111.out 2).trans rfl; have hcz7_3 : w6.cell? ⟨gb111, 3, none⟩ = some (.int .i64 a0_3) := (blk_cell BK111.out 3).trans rfl; have hfz7_0 := blk_frozen BK111.out 0; have hfz7_1 := blk_frozen BK111.out 1; have hfz7_2 := blk_frozen BK111.out 2; have hfz7_3 := blk_frozen BK111.out 3) | ((with_reducible refine gate_callee (f := 15) rfl ?_); refine goesL_ (some 8) rfl rfl Try.func15 (by kernel_rfl) rfl #[.agg #[.int .i64 a0_0, .int .i64 a0_1, .int .i64 a0_2, .int .i64 a0_3]] rfl (by (try simp only [List.map_toArray, List.map_cons, List.map_nil]); first | done | rfl | (simp only [List.length_drop, List.length_take]; rfl)) ?_; (with_reducible refine (polyptychref8_none.calls a0_0 a0_1 a0_2 a0_3 true _ A4.out).mono ?_); rintro e w8 ⟨rfl, hb⟩; refine ⟨_, rfl, ?_⟩; have n0_ := Aside0.mk (blk_below (g := gb111) (o := .cells #[.int .i64 a0_0, .int .i64 a0_1, .int .i64 a0_2, .int .i64 a0_3] 23 (0, 0)) (by (with_reducible repeat (first | refine blk_drewN ?_ _ | refine blk_drew ?_ | refine blk_alloc ?_ _)); exact BK111.out) hb); have n1_ := Aside0.mk (below_step (by repeat (first | (with_reducible first | exact HB.out | apply below_alloc | apply pw_below_drewN | apply below_drew1 | refine below_set ?_ GE111.out) | exact HB.out)) hb); clear BK111; clear HB; have BK111 := n0_; have HB := n1_; clear n0_ n1_; (try clear hb); (try clear hb2); (try clear hk); (try clear hi)))
    go_ret
    exact ⟨by first | rfl | (simp [errW_none, errW_some] <;> rfl) | (simp [*, errW_none, errW_some] <;> rfl), by repeat (first | (with_reducible first | exact HB.out | apply below_alloc | apply pw_below_drewN | apply below_drew1 | refine below_set ?_ GE111.out) | exact HB.out)⟩
  · replace c5 := Bool.eq_false_iff.mpr c5
    subst c5
    have H1 : (if a1 ≥ a0_0 then (if a2 ≥ a0_1 then (if (wrap64 (a1 - a0_0)) < a0_2 then (some (decide ((wrap64 (a2 - a0_1)) < a0_3))) else (some false)) else (some false)) else (some false)) = some r := by rw [if_neg (show ¬ (false = true) by decide)] at H; exact H
    clear H
    have H := H1
    clear H1
    by_cases c9 : a1 ≥ a0_0
    · rw [if_pos c9] at H
      have c9b0 : decide (a0_0 ≤ a1) = true := decide_eq_true c9
      clear c9
      by_cases c10 : a2 ≥ a0_1
      · rw [if_pos c10] at H
        have c10b0 : decide (a0_1 ≤ a2) = true := decide_eq_true c10
        clear c10
        by_cases c11 : (wrap64 (a1 - a0_0)) < a0_2
        · rw [if_pos c11] at H
          have c11b0 : decide ((wrap64 (a1 - a0_0)) < a0_2) = true := decide_eq_true c11
          clear c11
          obtain rfl := Option.some.inj H
          go_enter Try.func12, Try.ntmps12
          go_wp2_with (first | ((with_reducible refine gate_dst (N := 3) rfl ?_); refine box_event ?hg (N := 3) ?hd (cs := #[.int .i64 a0_0, .int .i64 a0_1, .int .i64 a0_2, .int .i64 a0_3]) (t := 23) ?hr ?_; (case hd => rfl); (case hg => rfl); (case hr => first | (go_simp; done) | (go_simp; rfl)); intro gb111 hg w12 hbox hb; have n0_ := Aside0.mk (below_step (by repeat (first | (with_reducible first | exact HB.out | apply below_alloc | apply pw_below_drewN | apply below_drew1) | exact HB.out)) hb); have n1_ := Aside0.mk (hbox); have n2_ := Aside0.mk ((by rw [hg]; exact (below_size (by repeat (first | (with_reducible first | exact HB.out | apply below_alloc | apply pw_below_drewN | apply below_drew1) | exact HB.out))) : w.heap.size ≤ gb111)); have n3_ := Aside0.mk ((by rw [hg]; exact (below_size (by repeat (first | (with_reducible first | exact HB.out | apply below_alloc | apply pw_below_drewN | apply below_drew1) | exact HB.out))) : w.heap.size ≤ gb111)); clear HB; have HB := n0_; have BK111 := n1_; have GW111 := n2_; have GE111 := n3_; clear n0_ n1_ n2_ n3_; clear hb hbox hg; have hcz13_0 : w12.cell? ⟨gb111, 0, none⟩ = some (.int .i64 a0_0) := (blk_cell BK111.out 0).trans rfl; have hcz13_1 : w12.cell? ⟨gb111, 1, none⟩ = some (.int .i64 a0_1) := (blk_cell BK111.out 1).trans rfl; have hcz13_2 : w12.cell? ⟨gb111, 2, none⟩ = some (.int .i64 a0_2) := (blk_cell BK111.out 2).trans rfl; have hcz13_3 : w12.cell? ⟨gb111, 3, none⟩ = some (.int .i64 a0_3) := (blk_cell BK111.out 3).trans rfl; have hfz13_0 := blk_frozen BK111.out 0; have hfz13_1 := blk_frozen BK111.out 1; have hfz13_2 := blk_frozen BK111.out 2; have hfz13_3 := blk_frozen BK111.out 3) | ((with_reducible refine gate_callee (f := 15) rfl ?_); refine goesL_ (some 8) rfl rfl Try.func15 (by kernel_rfl) rfl #[.agg #[.int .i64 a0_0, .int .i64 a0_1, .int .i64 a0_2, .int .i64 a0_3]] rfl (by (try simp only [List.map_toArray, List.map_cons, List.map_nil]); first | done | rfl | (simp only [List.length_drop, List.length_take]; rfl)) ?_; (with_reducible refine (polyptychref8_none.calls a0_0 a0_1 a0_2 a0_3 false _ A4.out).mono ?_); rintro e w14 ⟨rfl, hb⟩; refine ⟨_, rfl, ?_⟩; have n0_ := Aside0.mk (blk_below (g := gb111) (o := .cells #[.int .i64 a0_0, .int .i64 a0_1, .int .i64 a0_2, .int .i64 a0_3] 23 (0, 0)) (by (with_reducible repeat (first | refine blk_drewN ?_ _ | refine blk_drew ?_ | refine blk_alloc ?_ _)); exact BK111.out) hb); have n1_ := Aside0.mk (below_step (by repeat (first | (with_reducible first | exact HB.out | apply below_alloc | apply pw_below_drewN | apply below_drew1 | refine below_set ?_ GE111.out) | exact HB.out)) hb); clear BK111; clear HB; have BK111 := n0_; have HB := n1_; clear n0_ n1_; (try clear hb); (try clear hb2); (try clear hk); (try clear hi); have hcz15_0 : w14.cell? ⟨gb111, 0, none⟩ = some (.int .i64 a0_0) := (blk_cell BK111.out 0).trans rfl; have hcz15_1 : w14.cell? ⟨gb111, 1, none⟩ = some (.int .i64 a0_1) := (blk_cell BK111.out 1).trans rfl; have hcz15_2 : w14.cell? ⟨gb111, 2, none⟩ = some (.int .i64 a0_2) := (blk_cell BK111.out 2).trans rfl; have hcz15_3 : w14.cell? ⟨gb111, 3, none⟩ = some (.int .i64 a0_3) := (blk_cell BK111.out 3).trans rfl; have hfz15_0 := blk_frozen BK111.out 0; have hfz15_1 := blk_frozen BK111.out 1; have hfz15_2 := blk_frozen BK111.out 2; have hfz15_3 := blk_frozen BK111.out 3))
          go_ret
          exact ⟨by first | rfl | (simp [errW_none, errW_some] <;> rfl) | (simp [*, errW_none, errW_some] <;> rfl), by repeat (first | (with_reducible first | exact HB.out | apply below_alloc | apply pw_below_drewN | apply below_drew1 | refine below_set ?_ GE111.out) | exact HB.out)⟩
        · rw [if_neg c11] at H
          have c11b0 : decide ((wrap64 (a1 - a0_0)) < a0_2) = false := decide_eq_false c11
          clear c11
          obtain rfl := Option.some.inj H
          go_enter Try.func12, Try.ntmps12
          go_wp2_with (first | ((with_reducible refine gate_dst (N := 3) rfl ?_); refine box_event ?hg (N := 3) ?hd (cs := #[.int .i64 a0_0, .int .i64 a0_1, .int .i64 a0_2, .int .i64 a0_3]) (t := 23) ?hr ?_; (case hd => rfl); (case hg => rfl); (case hr => first | (go_simp; done) | (go_simp; rfl)); intro gb111 hg w16 hbox hb; have n0_ := Aside0.mk (below_step (by repeat (first | (with_reducible first | exact HB.out | apply below_alloc | apply pw_below_drewN | apply below_drew1) | exact HB.out)) hb); have n1_ := Aside0.mk (hbox); have n2_ := Aside0.mk ((by rw [hg]; exact (below_size (by repeat (first | (with_reducible first | exact HB.out | apply below_alloc | apply pw_below_drewN | apply below_drew1) | exact HB.out))) : w.heap.size ≤ gb111)); have n3_ := Aside0.mk ((by rw [hg]; exact (below_size (by repeat (first | (with_reducible first | exact HB.out | apply below_alloc | apply pw_below_drewN | apply below_drew1) | exact HB.out))) : w.heap.size ≤ gb111)); clear HB; have HB := n0_; have BK111 := n1_; have GW111 := n2_; have GE111 := n3_; clear n0_ n1_ n2_ n3_; clear hb hbox hg; have hcz17_0 : w16.cell? ⟨gb111, 0, none⟩ = some (.int .i64 a0_0) := (blk_cell BK111.out 0).trans rfl; have hcz17_1 : w16.cell? ⟨gb111, 1, none⟩ = some (.int .i64 a0_1) := (blk_cell BK111.out 1).trans rfl; have hcz17_2 : w16.cell? ⟨gb111, 2, none⟩ = some (.int .i64 a0_2) := (blk_cell BK111.out 2).trans rfl; have hcz17_3 : w16.cell? ⟨gb111, 3, none⟩ = some (.int .i64 a0_3) := (blk_cell BK111.out 3).trans rfl; have hfz17_0 := blk_frozen BK111.out 0; have hfz17_1 := blk_frozen BK111.out 1; have hfz17_2 := blk_frozen BK111.out 2; have hfz17_3 := blk_frozen BK111.out 3) | ((with_reducible refine gate_callee (f := 15) rfl ?_); refine goesL_ (some 8) rfl rfl Try.func15 (by kernel_rfl) rfl #[.agg #[.int .i64 a0_0, .int .i64 a0_1, .int .i64 a0_2, .int .i64 a0_3]] rfl (by (try simp only [List.map_toArray, List.map_cons, List.map_nil]); first | done | rfl | (simp only [List.length_drop, List.length_take]; rfl)) ?_; (with_reducible refine (polyptychref8_none.calls a0_0 a0_1 a0_2 a0_3 false _ A4.out).mono ?_); rintro e w18 ⟨rfl, hb⟩; refine ⟨_, rfl, ?_⟩; have n0_ := Aside0.mk (blk_below (g := gb111) (o := .cells #[.int .i64 a0_0, .int .i64 a0_1, .int .i64 a0_2, .int .i64 a0_3] 23 (0, 0)) (by (with_reducible repeat (first | refine blk_drewN ?_ _ | refine blk_drew ?_ | refine blk_alloc ?_ _)); exact BK111.out) hb); have n1_ := Aside0.mk (below_step (by repeat (first | (with_reducible first | exact HB.out | apply below_alloc | apply pw_below_drewN | apply below_drew1 | refine below_set ?_ GE111.out) | exact HB.out)) hb); clear BK111; clear HB; have BK111 := n0_; have HB := n1_; clear n0_ n1_; (try clear hb); (try clear hb2); (try clear hk); (try clear hi); have hcz19_0 : w18.cell? ⟨gb111, 0, none⟩ = some (.int .i64 a0_0) := (blk_cell BK111.out 0).trans rfl; have hcz19_1 : w18.cell? ⟨gb111, 1, none⟩ = some (.int .i64 a0_1) := (blk_cell BK111.out 1).trans rfl; have hcz19_2 : w18.cell? ⟨gb111, 2, none⟩ = some (.int .i64 a0_2) := (blk_cell BK111.out 2).trans rfl; have hcz19_3 : w18.cell? ⟨gb111, 3, none⟩ = some (.int .i64 a0_3) := (blk_cell BK111.out 3).trans rfl; have hfz19_0 := blk_frozen BK111.out 0; have hfz19_1 := blk_frozen BK111.out 1; have hfz19_2 := blk_frozen BK111.out 2; have hfz19_3 := blk_frozen BK111.out 3))
          go_ret
          exact ⟨by first | rfl | (simp [errW_none, errW_some] <;> rfl) | (simp [*, errW_none, errW_some] <;> rfl), by repeat (first | (with_reducible first | exact HB.out | apply below_alloc | apply pw_below_drewN | apply below_drew1 | refine below_set ?_ GE111.out) | exact HB.out)⟩
      · rw [if_neg c10] at H
        have c10b0 : decide (a0_1 ≤ a2) = false := decide_eq_false c10
        clear c10
        obtain rfl := Option.some.inj H
        go_enter Try.func12, Try.ntmps12
        go_wp2_with (first | ((with_reducible refine gate_dst (N := 3) rfl ?_); refine box_event ?hg (N := 3) ?hd (cs := #[.int .i64 a0_0, .int .i64 a0_1, .int .i64 a0_2, .int .i64 a0_3]) (t := 23) ?hr ?_; (case hd => rfl); (case hg => rfl); (case hr => first | (go_simp; done) | (go_simp; rfl)); intro gb111 hg w20 hbox hb; have n0_ := Aside0.mk (below_step (by repeat (first | (with_reducible first | exact HB.out | apply below_alloc | apply pw_below_drewN | apply below_drew1) | exact HB.out)) hb); have n1_ := Aside0.mk (hbox); have n2_ := Aside0.mk ((by rw [hg]; exact (below_size (by repeat (first | (with_reducible first | exact HB.out | apply below_alloc | apply pw_below_drewN | apply below_drew1) | exact HB.out))) : w.heap.size ≤ gb111)); have n3_ := Aside0.mk ((by rw [hg]; exact (below_size (by repeat (first | (with_reducible first | exact HB.out | apply below_alloc | apply pw_below_drewN | apply below_drew1) | exact HB.out))) : w.heap.size ≤ gb111)); clear HB; have HB := n0_; have BK111 := n1_; have GW111 := n2_; have GE111 := n3_; clear n0_ n1_ n2_ n3_; clear hb hbox hg; have hcz21_0 : w20.cell? ⟨gb111, 0, none⟩ = some (.int .i64 a0_0) := (blk_cell BK111.out 0).trans rfl; have hcz21_1 : w20.cell? ⟨gb111, 1, none⟩ = some (.int .i64 a0_1) := (blk_cell BK111.out 1).trans rfl; have hcz21_2 : w20.cell? ⟨gb111, 2, none⟩ = some (.int .i64 a0_2) := (blk_cell BK111.out 2).trans rfl; have hcz21_3 : w20.cell? ⟨gb111, 3, none⟩ = some (.int .i64 a0_3) := (blk_cell BK111.out 3).trans rfl; have hfz21_0 := blk_frozen BK111.out 0; have hfz21_1 := blk_frozen BK111.out 1; have hfz21_2 := blk_frozen BK111.out 2; have hfz21_3 := blk_frozen BK111.out 3) | ((with_reducible refine gate_callee (f := 15) rfl ?_); refine goesL_ (some 8) rfl rfl Try.func15 (by kernel_rfl) rfl #[.agg #[.int .i64 a0_0, .int .i64 a0_1, .int .i64 a0_2, .int .i64 a0_3]] rfl (by (try simp only [List.map_toArray, List.map_cons, List.map_nil]); first | done | rfl | (simp only [List.length_drop, List.length_take]; rfl)) ?_; (with_reducible refine (polyptychref8_none.calls a0_0 a0_1 a0_2 a0_3 false _ A4.out).mono ?_); rintro e w22 ⟨rfl, hb⟩; refine ⟨_, rfl, ?_⟩; have n0_ := Aside0.mk (blk_below (g := gb111) (o := .cells #[.int .i64 a0_0, .int .i64 a0_1, .int .i64 a0_2, .int .i64 a0_3] 23 (0, 0)) (by (with_reducible repeat (first | refine blk_drewN ?_ _ | refine blk_drew ?_ | refine blk_alloc ?_ _)); exact BK111.out) hb); have n1_ := Aside0.mk (below_step (by repeat (first | (with_reducible first | exact HB.out | apply below_alloc | apply pw_below_drewN | apply below_drew1 | refine below_set ?_ GE111.out) | exact HB.out)) hb); clear BK111; clear HB; have BK111 := n0_; have HB := n1_; clear n0_ n1_; (try clear hb); (try clear hb2); (try clear hk); (try clear hi); have hcz23_0 : w22.cell? ⟨gb111, 0, none⟩ = some (.int .i64 a0_0) := (blk_cell BK111.out 0).trans rfl; have hcz23_1 : w22.cell? ⟨gb111, 1, none⟩ = some (.int .i64 a0_1) := (blk_cell BK111.out 1).trans rfl; have hcz23_2 : w22.cell? ⟨gb111, 2, none⟩ = some (.int .i64 a0_2) := (blk_cell BK111.out 2).trans rfl; have hcz23_3 : w22.cell? ⟨gb111, 3, none⟩ = some (.int .i64 a0_3) := (blk_cell BK111.out 3).trans rfl; have hfz23_0 := blk_frozen BK111.out 0; have hfz23_1 := blk_frozen BK111.out 1; have hfz23_2 := blk_frozen BK111.out 2; have hfz23_3 := blk_frozen BK111.out 3))
        go_ret
        exact ⟨by first | rfl | (simp [errW_none, errW_some] <;> rfl) | (simp [*, errW_none, errW_some] <;> rfl), by repeat (first | (with_reducible first | exact HB.out | apply below_alloc | apply pw_below_drewN | apply below_drew1 | refine below_set ?_ GE111.out) | exact HB.out)⟩
    · rw [if_neg c9] at H
      have c9b0 : decide (a0_0 ≤ a1) = false := decide_eq_false c9
      clear c9
      obtain rfl := Option.some.inj H
      go_enter Try.func12, Try.ntmps12
      go_wp2_with (first | ((with_reducible refine gate_dst (N := 3) rfl ?_); refine box_event ?hg (N := 3) ?hd (cs := #[.int .i64 a0_0, .int .i64 a0_1, .int .i64 a0_2, .int .i64 a0_3]) (t := 23) ?hr ?_; (case hd => rfl); (case hg => rfl); (case hr => first | (go_simp; done) | (go_simp; rfl)); intro gb111 hg w24 hbox hb; have n0_ := Aside0.mk (below_step (by repeat (first | (with_reducible first | exact HB.out | apply below_alloc | apply pw_below_drewN | apply below_drew1) | exact HB.out)) hb); have n1_ := Aside0.mk (hbox); have n2_ := Aside0.mk ((by rw [hg]; exact (below_size (by repeat (first | (with_reducible first | exact HB.out | apply below_alloc | apply pw_below_drewN | apply below_drew1) | exact HB.out))) : w.heap.size ≤ gb111)); have n3_ := Aside0.mk ((by rw [hg]; exact (below_size (by repeat (first | (with_reducible first | exact HB.out | apply below_alloc | apply pw_below_drewN | apply below_drew1) | exact HB.out))) : w.heap.size ≤ gb111)); clear HB; have HB := n0_; have BK111 := n1_; have GW111 := n2_; have GE111 := n3_; clear n0_ n1_ n2_ n3_; clear hb hbox hg; have hcz25_0 : w24.cell? ⟨gb111, 0, none⟩ = some (.int .i64 a0_0) := (blk_cell BK111.out 0).trans rfl; have hcz25_1 : w24.cell? ⟨gb111, 1, none⟩ = some (.int .i64 a0_1) := (blk_cell BK111.out 1).trans rfl; have hcz25_2 : w24.cell? ⟨gb111, 2, none⟩ = some (.int .i64 a0_2) := (blk_cell BK111.out 2).trans rfl; have hcz25_3 : w24.cell? ⟨gb111, 3, none⟩ = some (.int .i64 a0_3) := (blk_cell BK111.out 3).trans rfl; have hfz25_0 := blk_frozen BK111.out 0; have hfz25_1 := blk_frozen BK111.out 1; have hfz25_2 := blk_frozen BK111.out 2; have hfz25_3 := blk_frozen BK111.out 3) | ((with_reducible refine gate_callee (f := 15) rfl ?_); refine goesL_ (some 8) rfl rfl Try.func15 (by kernel_rfl) rfl #[.agg #[.int .i64 a0_0, .int .i64 a0_1, .int .i64 a0_2, .int .i64 a0_3]] rfl (by (try simp only [List.map_toArray, List.map_cons, List.map_nil]); first | done | rfl | (simp only [List.length_drop, List.length_take]; rfl)) ?_; (with_reducible refine (polyptychref8_none.calls a0_0 a0_1 a0_2 a0_3 false _ A4.out).mono ?_); rintro e w26 ⟨rfl, hb⟩; refine ⟨_, rfl, ?_⟩; have n0_ := Aside0.mk (blk_below (g := gb111) (o := .cells #[.int .i64 a0_0, .int .i64 a0_1, .int .i64 a0_2, .int .i64 a0_3] 23 (0, 0)) (by (with_reducible repeat (first | refine blk_drewN ?_ _ | refine blk_drew ?_ | refine blk_alloc ?_ _)); exact BK111.out) hb); have n1_ := Aside0.mk (below_step (by repeat (first | (with_reducible first | exact HB.out | apply below_alloc | apply pw_below_drewN | apply below_drew1 | refine below_set ?_ GE111.out) | exact HB.out)) hb); clear BK111; clear HB; have BK111 := n0_; have HB := n1_; clear n0_ n1_; (try clear hb); (try clear hb2); (try clear hk); (try clear hi); have hcz27_0 : w26.cell? ⟨gb111, 0, none⟩ = some (.int .i64 a0_0) := (blk_cell BK111.out 0).trans rfl; have hcz27_1 : w26.cell? ⟨gb111, 1, none⟩ = some (.int .i64 a0_1) := (blk_cell BK111.out 1).trans rfl; have hcz27_2 : w26.cell? ⟨gb111, 2, none⟩ = some (.int .i64 a0_2) := (blk_cell BK111.out 2).trans rfl; have hcz27_3 : w26.cell? ⟨gb111, 3, none⟩ = some (.int .i64 a0_3) := (blk_cell BK111.out 3).trans rfl; have hfz27_0 := blk_frozen BK111.out 0; have hfz27_1 := blk_frozen BK111.out 1; have hfz27_2 := blk_frozen BK111.out 2; have hfz27_3 := blk_frozen BK111.out 3))
      go_ret
      exact ⟨by first | rfl | (simp [errW_none, errW_some] <;> rfl) | (simp [*, errW_none, errW_some] <;> rfl), by repeat (first | (with_reducible first | exact HB.out | apply below_alloc | apply pw_below_drewN | apply below_drew1 | refine below_set ?_ GE111.out) | exact HB.out)⟩

/-! ### polyptychref8_Area: function 13 -/
def polyptychref8_Area.f (a0_0 : Int) (a0_1 : Int) (a0_2 : Int) (a0_3 : Int) : Option (Int) := (polyptychref8_none.f a0_0 a0_1 a0_2 a0_3).bind fun t114 => (if t114 = true then (some 0) else (some (wrap64 (a0_2 * a0_3))))
set_option maxHeartbeats 8000000 in
set_option maxRecDepth 100000 in
theorem polyptychref8_Area.calls (a0_0 : Int) (a0_1 : Int) (a0_2 : Int) (a0_3 : Int) (r : Int) (w : World) (h : polyptychref8_Area.f a0_0 a0_1 a0_2 a0_3 = some r) :
    Calls Try.prog 13 #[.agg #[.int .i64 a0_0, .int .i64 a0_1, .int .i64 a0_2, .int .i64 a0_3]] w fun e w' => e = .returned (.int .i64 r) ∧ Below w.heap.size w w' := by
  have hu23 := Try.underlying23
  have HB := Aside0.mk (Below.refl w.heap.size w)
  have H : ((polyptychref8_none.f a0_0 a0_1 a0_2 a0_3).bind fun t114 => (if t114 = true then (some 0) else (some (wrap64 (a0_2 * a0_3))))) = some r := h
  clear h
  replace H := Option.bind_eq_some_iff.mp H
  obtain ⟨t114, A20, H⟩ := H
  replace H : (if t114 = true then (some 0) else (some (wrap64 (a0_2 * a0_3)))) = some r := H
  have A2 := Aside0.mk A20
  clear A20
  by_cases c3 : t114 = true
  · subst c3
    have H1 : (some 0) = some r := by rw [if_pos rfl] at H; exact H
    clear H
    have H := H1
    clear H1
    obtain rfl := Option.some.inj H
    go_enter Try.func13, Try.ntmps13
    go_wp2_with (first | ((with_reducible refine gate_dst (N := 1) rfl ?_); refine box_event ?hg (N := 1) ?hd (cs := #[.int .i64 a0_0, .int .i64 a0_1, .int .i64 a0_2, .int .i64 a0_3]) (t := 23) ?hr ?_; (case hd => rfl); (case hg => rfl); (case hr => first | (go_simp; done) | (go_simp; rfl)); intro gb113 hg w4 hbox hb; have n0_ := Aside0.mk (below_step (by repeat (first | (with_reducible first | exact HB.out | apply below_alloc | apply pw_below_drewN | apply below_drew1) | exact HB.out)) hb); have n1_ := Aside0.mk (hbox); have n2_ := Aside0.mk ((by rw [hg]; exact (below_size (by repeat (first | (with_reducible first | exact HB.out | apply below_alloc | apply pw_below_drewN | apply below_drew1) | exact HB.out))) : w.heap.size ≤ gb113)); have n3_ := Aside0.mk ((by rw [hg]; exact (below_size (by repeat (first | (with_reducible first | exact HB.out | apply below_alloc | apply pw_below_drewN | apply below_drew1) | exact HB.out))) : w.heap.size ≤ gb113)); clear HB; have HB := n0_; have BK113 := n1_; have GW113 := n2_; have GE113 := n3_; clear n0_ n1_ n2_ n3_; clear hb hbox hg; have hcz5_0 : w4.cell? ⟨gb113, 0, none⟩ = some (.int .i64 a0_0) := (blk_cell BK113.out 0).trans rfl; have hcz5_1 : w4.cell? ⟨gb113, 1, none⟩ = some (.int .i64 a0_1) := (blk_cell BK113.out 1).trans rfl; have hcz5_2 : w4.cell? ⟨gb113, 2, none⟩ = some (.int .i64 a0_2) := (blk_cell BK113.out 2).trans rfl; have hcz5_3 : w4.cell? ⟨gb113, 3, none⟩ = some (.int .i64 a0_3) := (blk_cell BK113.out 3).trans rfl; have hfz5_0 := blk_frozen BK113.out 0; have hfz5_1 := blk_frozen BK113.out 1; have hfz5_2 := blk_frozen BK113.out 2; have hfz5_3 := blk_frozen BK113.out 3) | ((with_reducible refine gate_callee (f := 15) rfl ?_); refine goesL_ (some 4) rfl rfl Try.func15 (by kernel_rfl) rfl #[.agg #[.int .i64 a0_0, .int .i64 a0_1, .int .i64 a0_2, .int .i64 a0_3]] rfl (by (try simp only [List.map_toArray, List.map_cons, List.map_nil]); first | done | rfl | (simp only [List.length_drop, List.length_take]; rfl)) ?_; (with_reducible refine (polyptychref8_none.calls a0_0 a0_1 a0_2 a0_3 true _ A2.out).mono ?_); rintro e w6 ⟨rfl, hb⟩; refine ⟨_, rfl, ?_⟩; have n0_ := Aside0.mk (blk_below (g := gb113) (o := .cells #[.int .i64 a0_0, .int .i64 a0_1, .int .i64 a0_2, .int .i64 a0_3] 23 (0, 0)) (by (with_reducible repeat (first | refine blk_drewN ?_ _ | refine blk_drew ?_ | refine blk_alloc ?_ _)); exact BK113.out) hb); have n1_ := Aside0.mk (below_step (by repeat (first | (with_reducible first | exact HB.out | apply below_alloc | apply pw_below_drewN | apply below_drew1 | refine below_set ?_ GE113.out) | exact HB.out)) hb); clear BK113; clear HB; have BK113 := n0_; have HB := n1_; clear n0_ n1_; (try clear hb); (try clear hb2); (try clear hk); (try clear hi)))
    go_ret
    exact ⟨by first | rfl | (simp [errW_none, errW_some] <;> rfl) | (simp [*, errW_none, errW_some] <;> rfl), by repeat (first | (with_reducible first | exact HB.out | apply below_alloc | apply pw_below_drewN | apply below_drew1 | refine below_set ?_ GE113.out) | exact HB.out)⟩
  · replace c3 := Bool.eq_false_iff.mpr c3
    subst c3
    have H1 : (some (wrap64 (a0_2 * a0_3))) = some r := by rw [if_neg (show ¬ (false = true) by decide)] at H; exact H
    clear H
    have H := H1
    clear H1
    obtain rfl := Option.some.inj H
    go_enter Try.func13, Try.ntmps13
    go_wp2_with (first | ((with_reducible refine gate_dst (N := 1) rfl ?_); refine box_event ?hg (N := 1) ?hd (cs := #[.int .i64 a0_0, .int .i64 a0_1, .int .i64 a0_2, .int .i64 a0_3]) (t := 23) ?hr ?_; (case hd => rfl); (case hg => rfl); (case hr => first | (go_simp; done) | (go_simp; rfl)); intro gb113 hg w7 hbox hb; have n0_ := Aside0.mk (below_step (by repeat (first | (with_reducible first | exact HB.out | apply below_alloc | apply pw_below_drewN | apply below_drew1) | exact HB.out)) hb); have n1_ := Aside0.mk (hbox); have n2_ := Aside0.mk ((by rw [hg]; exact (below_size (by repeat (first | (with_reducible first | exact HB.out | apply below_alloc | apply pw_below_drewN | apply below_drew1) | exact HB.out))) : w.heap.size ≤ gb113)); have n3_ := Aside0.mk ((by rw [hg]; exact (below_size (by repeat (first | (with_reducible first | exact HB.out | apply below_alloc | apply pw_below_drewN | apply below_drew1) | exact HB.out))) : w.heap.size ≤ gb113)); clear HB; have HB := n0_; have BK113 := n1_; have GW113 := n2_; have GE113 := n3_; clear n0_ n1_ n2_ n3_; clear hb hbox hg; have hcz8_0 : w7.cell? ⟨gb113, 0, none⟩ = some (.int .i64 a0_0) := (blk_cell BK113.out 0).trans rfl; have hcz8_1 : w7.cell? ⟨gb113, 1, none⟩ = some (.int .i64 a0_1) := (blk_cell BK113.out 1).trans rfl; have hcz8_2 : w7.cell? ⟨gb113, 2, none⟩ = some (.int .i64 a0_2) := (blk_cell BK113.out 2).trans rfl; have hcz8_3 : w7.cell? ⟨gb113, 3, none⟩ = some (.int .i64 a0_3) := (blk_cell BK113.out 3).trans rfl; have hfz8_0 := blk_frozen BK113.out 0; have hfz8_1 := blk_frozen BK113.out 1; have hfz8_2 := blk_frozen BK113.out 2; have hfz8_3 := blk_frozen BK113.out 3) | ((with_reducible refine gate_callee (f := 15) rfl ?_); refine goesL_ (some 4) rfl rfl Try.func15 (by kernel_rfl) rfl #[.agg #[.int .i64 a0_0, .int .i64 a0_1, .int .i64 a0_2, .int .i64 a0_3]] rfl (by (try simp only [List.map_toArray, List.map_cons, List.map_nil]); first | done | rfl | (simp only [List.length_drop, List.length_take]; rfl)) ?_; (with_reducible refine (polyptychref8_none.calls a0_0 a0_1 a0_2 a0_3 false _ A2.out).mono ?_); rintro e w9 ⟨rfl, hb⟩; refine ⟨_, rfl, ?_⟩; have n0_ := Aside0.mk (blk_below (g := gb113) (o := .cells #[.int .i64 a0_0, .int .i64 a0_1, .int .i64 a0_2, .int .i64 a0_3] 23 (0, 0)) (by (with_reducible repeat (first | refine blk_drewN ?_ _ | refine blk_drew ?_ | refine blk_alloc ?_ _)); exact BK113.out) hb); have n1_ := Aside0.mk (below_step (by repeat (first | (with_reducible first | exact HB.out | apply below_alloc | apply pw_below_drewN | apply below_drew1 | refine below_set ?_ GE113.out) | exact HB.out)) hb); clear BK113; clear HB; have BK113 := n0_; have HB := n1_; clear n0_ n1_; (try clear hb); (try clear hb2); (try clear hk); (try clear hi); have hcz10_0 : w9.cell? ⟨gb113, 0, none⟩ = some (.int .i64 a0_0) := (blk_cell BK113.out 0).trans rfl; have hcz10_1 : w9.cell? ⟨gb113, 1, none⟩ = some (.int .i64 a0_1) := (blk_cell BK113.out 1).trans rfl; have hcz10_2 : w9.cell? ⟨gb113, 2, none⟩ = some (.int .i64 a0_2) := (blk_cell BK113.out 2).trans rfl; have hcz10_3 : w9.cell? ⟨gb113, 3, none⟩ = some (.int .i64 a0_3) := (blk_cell BK113.out 3).trans rfl; have hfz10_0 := blk_frozen BK113.out 0; have hfz10_1 := blk_frozen BK113.out 1; have hfz10_2 := blk_frozen BK113.out 2; have hfz10_3 := blk_frozen BK113.out 3))
    go_ret
    exact ⟨by first | rfl | (simp [errW_none, errW_some] <;> rfl) | (simp [*, errW_none, errW_some] <;> rfl), by repeat (first | (with_reducible first | exact HB.out | apply below_alloc | apply pw_below_drewN | apply below_drew1 | refine below_set ?_ GE113.out) | exact HB.out)⟩

-- NOT PRINTED: function 5 (polyptychlaw9_RectTells)

end Go.Proofs.Ytlcaepjgjdhmoaa.PRectTells
