/- The walk of RectTells: whatever rectangle, direction, number and place: the law answers true, and nothing that was there has turned. -/
import Derived.Test.YtlcaepjgjdhmoaaKit2
import Derived.Test.YtlcaepjgjdhmoaaPRectTellsx2
namespace Go.Proofs.Ytlcaepjgjdhmoaa.RectTellsW
open Go.RowKit Go.Proofs.YtlcaepjgjdhmoaaKit2 Go.Proofs.Ytlcaepjgjdhmoaa.PRectTells Go.Proofs.YtlcaepjgjdhmoaaW.PrintWords Go.Proofs.YtlcaepjgjdhmoaaW.PrintLast
set_option linter.unusedVariables false
set_option linter.unusedSimpArgs false

def oneB (n : Int) : Bool := decide (0 ≤ n) && decide (n ≤ 1000)
def okB (x y a b : Int) : Bool := oneB x && (oneB y && (oneB a && oneB b))
theorem one_eq (n : Int) : rect_one.f n = some (oneB n) := by
  unfold rect_one.f oneB
  by_cases h : n ≥ 0
  · rw [if_pos h, decide_eq_true (show 0 ≤ n from h), Bool.true_and]
  · rw [if_neg h, decide_eq_false (show ¬ 0 ≤ n from h), Bool.false_and]
theorem ok_eq (x y a b : Int) : rect_Ok.f x y a b = some (okB x y a b) := by
  unfold rect_Ok.f okB
  simp only [one_eq, Option.bind_some]
  cases oneB x <;> cases oneB y <;> cases oneB a <;> cases oneB b <;> rfl
theorem none_eq (x y a b : Int) : polyptychref8_none.f x y a b = some (!okB x y a b) := by
  unfold polyptychref8_none.f
  repeat' split
  all_goals (simp only [Option.some.injEq, okB, oneB]; first | (simp; omega) | (rw [Bool.eq_iff_iff]; simp; omega))
theorem ok_some (x y a b : Int) : ∃ r, rect_Ok.f x y a b = some r := ⟨_, ok_eq x y a b⟩
theorem ok_none (x y a b : Int) : polyptychref8_none.f x y a b = (rect_Ok.f x y a b).map not := by rw [ok_eq, none_eq]; rfl
theorem cut_same (x y a b d f : Int) : polyptychref8_Cut.f x y a b d f = rect_Cut.f x y a b d f := by
  obtain ⟨r, hr⟩ := ok_some x y a b
  unfold polyptychref8_Cut.f rect_Cut.f
  rw [ok_none, hr]
  cases r <;> rfl
theorem cut_some (x y a b d f : Int) : ∃ r1 r2 r3 r4 r5 r6 r7 r8 r9 r10 r11 r12 r13, rect_Cut.f x y a b d f = some (r1, r2, r3, r4, r5, r6, r7, r8, r9, r10, r11, r12, r13) := by
  obtain ⟨r, hr⟩ := ok_some x y a b
  unfold rect_Cut.f
  rw [hr]
  simp only [Option.bind_some]
  repeat' split
  all_goals exact ⟨_, _, _, _, _, _, _, _, _, _, _, _, _, rfl⟩
theorem in_same (x y a b p q : Int) (hp : p ≤ 9223372036854775807) (hq : q ≤ 9223372036854775807) : ∃ r, rect_In.f x y a b p q = some r ∧ polyptychref8_In.f x y a b p q = some r := by
  obtain ⟨r, hr⟩ := ok_some x y a b
  have hn := ok_none x y a b
  rw [hr] at hn
  unfold rect_In.f polyptychref8_In.f
  rw [hr, hn]
  cases r with
  | false => exact ⟨false, rfl, rfl⟩
  | true =>
    obtain ⟨⟨hx1, hx2⟩, ⟨hy1, hy2⟩, ⟨ha1, ha2⟩, hb1, hb2⟩ := rect_Ok.bounds hr
    have e1 : wrap64 (x + a) = x + a := by unfold wrap64; omega
    have e2 : wrap64 (y + b) = y + b := by unfold wrap64; omega
    simp only [Option.map_some, Option.bind_some, Bool.not_true, if_true, e1, e2, Bool.false_eq_true, if_false]
    by_cases h1 : p ≥ x
    · have e3 : wrap64 (p - x) = p - x := by unfold wrap64; omega
      by_cases h2 : q ≥ y
      · have e4 : wrap64 (q - y) = q - y := by unfold wrap64; omega
        simp only [if_pos h1, if_pos h2, e3, e4]
        by_cases h3 : p < x + a
        · refine ⟨decide (q < y + b), by rw [if_pos h3], ?_⟩
          rw [if_pos (by omega), show decide (q - y < b) = decide (q < y + b) from decide_eq_decide.2 (by omega)]
        · exact ⟨false, by rw [if_neg h3], by rw [if_neg (by omega)]⟩
      · refine ⟨false, ?_, ?_⟩
        · rw [if_pos h1]; split <;> first | rfl | rw [if_neg h2]
        · rw [if_pos h1, if_neg h2]
    · exact ⟨false, by rw [if_neg h1], by rw [if_neg h1]⟩
theorem area_same (x y a b : Int) : ∃ r, rect_Area.f x y a b = some r ∧ polyptychref8_Area.f x y a b = some r := by
  obtain ⟨r, hr⟩ := ok_some x y a b
  have hn := ok_none x y a b
  rw [hr] at hn
  unfold rect_Area.f polyptychref8_Area.f
  rw [hr, hn]
  cases r with
  | false => exact ⟨_, rfl, rfl⟩
  | true => exact ⟨_, rfl, rfl⟩

abbrev rv (x y a b : Int) : Value := .agg #[.int .i64 x, .int .i64 y, .int .i64 a, .int .i64 b]
attribute [local go_sem] cell_alloc_some cell_alloc2_some cell_alloc3_some cell_alloc4_some Ext.cell Ext.frozen
set_option maxHeartbeats 8000000 in
set_option maxRecDepth 100000 in
theorem walk (x y a b d f p q : Int) (w : World) (hp : p ≤ 9223372036854775807) (hq : q ≤ 9223372036854775807) :
    Calls Try.prog 5 #[rv x y a b, .int .i64 d, .int .i64 f, .int .i64 p, .int .i64 q] w fun e w' => e = .returned (.bool true) ∧ Below w.heap.size w w' := by
  go_enter Try.func5, Try.ntmps5
  go_wp2
  go_loopw [1, 2, 3, 4, 11] (fun s1 s2 s3 s4 s11 W => ∃ (x y a b d f p q : Int) (k : Nat), k ≤ 2 ∧ s11 = .int .i64 k ∧ s1 = .int .i64 d ∧ s2 = .int .i64 f ∧ s3 = .int .i64 p ∧ s4 = .int .i64 q ∧ p ≤ 9223372036854775807 ∧ q ≤ 9223372036854775807 ∧ W.heap[w.heap.size]? = some (.cells #[.int .i64 x, .int .i64 y, .int .i64 a, .int .i64 b] 23 (0, 0)) ∧ Below w.heap.size w W) (fun _ _ _ _ k _ => 2 - (intOf k).toNat)
  case atStart => exact ⟨x, y, a, b, d, f, p, q, 0, by omega, rfl, rfl, rfl, rfl, rfl, hp, hq, by (repeat (first | (with_reducible assumption) | (with_reducible apply bs_same) | (with_reducible apply bs_far; case hp => (dsimp only; omega)) | (with_reducible apply bs_drew) | (with_reducible apply bs_drewN) | (with_reducible apply bs_new; (first | (with_reducible rfl) | (simp; done))) | (with_reducible apply bs_alloc) | (with_reducible apply bs_below; (case hb => with_reducible assumption); (case hB => first | omega | (simp; omega) | (simp; done))))), by (repeat (first | (with_reducible assumption) | with_reducible exact be_refl _ | (with_reducible refine be_set ?_ (by dsimp only; omega)) | (with_reducible apply be_drew) | (with_reducible apply be_drewN) | (with_reducible refine be_alloc ?_ (by first | omega | (simp; omega) | simp)) | (with_reducible refine be_call (by with_reducible assumption) (by first | omega | (simp; omega) | simp) ?_)))⟩
  case round =>
    clear hp hq
    obtain ⟨x, y, a, b, d, f, p, q, k, hk, rfl, rfl, rfl, rfl, rfl, hp, hq, hB, hb⟩ := hrel
    obtain ⟨c0, c1, c2, c3, fz⟩ := cells4 hB
    have s0 := bs_lt hB
    by_cases hlt : k < 2
    · obtain ⟨r1, r2, r3, r4, r5, r6, r7, r8, r9, r10, r11, r12, r13, hcut⟩ := cut_some x y a b d f
      have hcut2 := (cut_same x y a b d f).trans hcut
      obtain ⟨i, hin, hin2⟩ := in_same x y a b p q hp hq
      obtain ⟨ar, har, har2⟩ := area_same x y a b
      have H1 := hide hcut; have H2 := hide hcut2; have H3 := hide hin; have H4 := hide hin2; have H5 := hide har; have H6 := hide har2
      clear hcut hcut2 hin hin2 har har2
      go_upto_region 6 with (first | (go_at_call 7; refine (rect_Cut.calls _ _ _ _ _ _ _ _ _ _ _ _ _ _ _ _ _ _ _ _ H1.out).mono ?_; rintro e v1 ⟨rfl, hb1⟩; obtain ⟨hc1, hf1⟩ := be_known hb1; have y1 := hb1.size) | (go_at_call 11; refine (polyptychref8_Cut.calls _ _ _ _ _ _ _ _ _ _ _ _ _ _ _ _ _ _ _ _ H2.out).mono ?_; rintro e v2 ⟨rfl, hb2⟩; obtain ⟨hc2, hf2⟩ := be_known hb2; have y2 := hb2.size; simp only [World.size_alloc] at y2))
      have z0 : w.heap.size < v1.heap.size := by have := hb1.size; omega
      have z1 : v1.heap.size + 1 + 1 < v2.heap.size := by omega
      apply wp_letter7 (w.heap.size) w (w.heap.size) 23 (v1.heap.size) 23 (v1.heap.size + 1) 23 (v1.heap.size + 1 + 1) 23 (v2.heap.size) 23 (v2.heap.size + 1) 23 (v2.heap.size + 1 + 1) 23
      case h0 => (repeat (first | (with_reducible assumption) | (with_reducible apply bs_same) | (with_reducible apply bs_far; case hp => (dsimp only; omega)) | (with_reducible apply bs_drew) | (with_reducible apply bs_drewN) | (with_reducible apply bs_new; (first | (with_reducible rfl) | (simp; done))) | (with_reducible apply bs_alloc) | (with_reducible apply bs_below; (case hb => with_reducible assumption); (case hB => first | omega | (simp; omega) | (simp; done)))))
      case h1 => (repeat (first | (with_reducible assumption) | (with_reducible apply bs_same) | (with_reducible apply bs_far; case hp => (dsimp only; omega)) | (with_reducible apply bs_drew) | (with_reducible apply bs_drewN) | (with_reducible apply bs_new; (first | (with_reducible rfl) | (simp; done))) | (with_reducible apply bs_alloc) | (with_reducible apply bs_below; (case hb => with_reducible assumption); (case hB => first | omega | (simp; omega) | (simp; done)))))
      case h2 => (repeat (first | (with_reducible assumption) | (with_reducible apply bs_same) | (with_reducible apply bs_far; case hp => (dsimp only; omega)) | (with_reducible apply bs_drew) | (with_reducible apply bs_drewN) | (with_reducible apply bs_new; (first | (with_reducible rfl) | (simp; done))) | (with_reducible apply bs_alloc) | (with_reducible apply bs_below; (case hb => with_reducible assumption); (case hB => first | omega | (simp; omega) | (simp; done)))))
      case h3 => (repeat (first | (with_reducible assumption) | (with_reducible apply bs_same) | (with_reducible apply bs_far; case hp => (dsimp only; omega)) | (with_reducible apply bs_drew) | (with_reducible apply bs_drewN) | (with_reducible apply bs_new; (first | (with_reducible rfl) | (simp; done))) | (with_reducible apply bs_alloc) | (with_reducible apply bs_below; (case hb => with_reducible assumption); (case hB => first | omega | (simp; omega) | (simp; done)))))
      case h4 => (repeat (first | (with_reducible assumption) | (with_reducible apply bs_same) | (with_reducible apply bs_far; case hp => (dsimp only; omega)) | (with_reducible apply bs_drew) | (with_reducible apply bs_drewN) | (with_reducible apply bs_new; (first | (with_reducible rfl) | (simp; done))) | (with_reducible apply bs_alloc) | (with_reducible apply bs_below; (case hb => with_reducible assumption); (case hB => first | omega | (simp; omega) | (simp; done)))))
      case h5 => (repeat (first | (with_reducible assumption) | (with_reducible apply bs_same) | (with_reducible apply bs_far; case hp => (dsimp only; omega)) | (with_reducible apply bs_drew) | (with_reducible apply bs_drewN) | (with_reducible apply bs_new; (first | (with_reducible rfl) | (simp; done))) | (with_reducible apply bs_alloc) | (with_reducible apply bs_below; (case hb => with_reducible assumption); (case hB => first | omega | (simp; omega) | (simp; done)))))
      case h6 => (repeat (first | (with_reducible assumption) | (with_reducible apply bs_same) | (with_reducible apply bs_far; case hp => (dsimp only; omega)) | (with_reducible apply bs_drew) | (with_reducible apply bs_drewN) | (with_reducible apply bs_new; (first | (with_reducible rfl) | (simp; done))) | (with_reducible apply bs_alloc) | (with_reducible apply bs_below; (case hb => with_reducible assumption); (case hB => first | omega | (simp; omega) | (simp; done)))))
      case hb => (repeat (first | (with_reducible assumption) | with_reducible exact be_refl _ | (with_reducible refine be_set ?_ (by dsimp only; omega)) | (with_reducible apply be_drew) | (with_reducible apply be_drewN) | (with_reducible refine be_alloc ?_ (by first | omega | (simp; omega) | simp)) | (with_reducible refine be_call (by with_reducible assumption) (by first | omega | (simp; omega) | simp) ?_)))
      intro w1_ k1_0 k1_1 k1_2 k1_3 k1_4 k1_5 k1_6 HB1
      try simp only [List.setIfInBounds_toArray, List.set_cons_zero, List.set_cons_succ] at k1_0 k1_1 k1_2 k1_3 k1_4 k1_5 k1_6
      obtain ⟨c1_0_0, c1_0_1, c1_0_2, c1_0_3, f1_0⟩ := cells4 k1_0
      have s1_0 := bs_lt k1_0
      obtain ⟨c1_1_0, c1_1_1, c1_1_2, c1_1_3, f1_1⟩ := cells4 k1_1
      have s1_1 := bs_lt k1_1
      obtain ⟨c1_2_0, c1_2_1, c1_2_2, c1_2_3, f1_2⟩ := cells4 k1_2
      have s1_2 := bs_lt k1_2
      obtain ⟨c1_3_0, c1_3_1, c1_3_2, c1_3_3, f1_3⟩ := cells4 k1_3
      have s1_3 := bs_lt k1_3
      obtain ⟨c1_4_0, c1_4_1, c1_4_2, c1_4_3, f1_4⟩ := cells4 k1_4
      have s1_4 := bs_lt k1_4
      obtain ⟨c1_5_0, c1_5_1, c1_5_2, c1_5_3, f1_5⟩ := cells4 k1_5
      have s1_5 := bs_lt k1_5
      obtain ⟨c1_6_0, c1_6_1, c1_6_2, c1_6_3, f1_6⟩ := cells4 k1_6
      have s1_6 := bs_lt k1_6
      clear hc1 hf1 hc2 hf2 c0 c1 c2 c3 fz hB
      refine wp_region_fresh_lit (by kernel_rfl) (by kernel_rfl) ?_
      repeat (quiet_step (first | (go_at_call 9; exact fresh_call (rect_In.calls _ _ _ _ _ _ _ _ H3.out)) | (go_at_call 12; exact fresh_call (polyptychref8_In.calls _ _ _ _ _ _ _ _ H4.out)) | (go_at_call 10; exact fresh_call (rect_Area.calls _ _ _ _ _ _ H5.out)) | (go_at_call 13; exact fresh_call (polyptychref8_Area.calls _ _ _ _ _ _ H6.out))))
      refine wpQuiet_nil ?_
      rintro _ ⟨⟨W6, hb6⟩, rfl⟩
      (try dsimp only)
      obtain ⟨hc6, hf6⟩ := be_known hb6
      have y6 := hb6.size
      go_wp2_with fail
      go_roundw
      case rel => exact ⟨Go.bits .and .i64 x 15, Go.bits .and .i64 y 15, Go.bits .and .i64 a 15, Go.bits .and .i64 b 15, _, _, _, _, k + 1, by omega, by go_num, rfl, rfl, rfl, rfl, Int.le_trans (and_range 5 (by omega) p).2 (by decide), Int.le_trans (and_range 5 (by omega) q).2 (by decide), by (apply bs_eq; (case h => (repeat (first | (with_reducible assumption) | (with_reducible apply bs_same) | (with_reducible apply bs_far; case hp => (dsimp only; omega)) | (with_reducible apply bs_drew) | (with_reducible apply bs_drewN) | (with_reducible apply bs_new; (first | (with_reducible rfl) | (simp; done))) | (with_reducible apply bs_alloc) | (with_reducible apply bs_below; (case hb => with_reducible assumption); (case hB => first | omega | (simp; omega) | (simp; done)))))); (case e => rfl)), by (repeat (first | (with_reducible assumption) | with_reducible exact be_refl _ | (with_reducible refine be_set ?_ (by dsimp only; omega)) | (with_reducible apply be_drew) | (with_reducible apply be_drewN) | (with_reducible refine be_alloc ?_ (by first | omega | (simp; omega) | simp)) | (with_reducible refine be_call (by with_reducible assumption) (by first | omega | (simp; omega) | simp) ?_)))⟩
      case measure => simp [intOf]; omega
    · have hk2 : k = 2 := by omega
      go_wp2_with (go_at_call 8; refine (polyptychlaw9_awake.calls true _ rfl).mono ?_; rintro e v1 ⟨rfl, hb1⟩)
      go_ret
      exact ⟨rfl, by (repeat (first | (with_reducible assumption) | with_reducible exact be_refl _ | (with_reducible refine be_set ?_ (by dsimp only; omega)) | (with_reducible apply be_drew) | (with_reducible apply be_drewN) | (with_reducible refine be_alloc ?_ (by first | omega | (simp; omega) | simp)) | (with_reducible refine be_call (by with_reducible assumption) (by first | omega | (simp; omega) | simp) ?_)))⟩
theorem le_of_wf {n : Int} (h : (Lit.int .i64 n).wf = true) : n ≤ 9223372036854775807 := by
  have h2 : n ≤ IntKind.i64.max := by
    unfold Lit.wf at h; simp at h; exact h.2
  exact h2
theorem walkR (x y a b d f p q : Int) (w : World) (_ : (Lit.int .i64 x).wf = true) (_ : (Lit.int .i64 y).wf = true) (_ : (Lit.int .i64 a).wf = true) (_ : (Lit.int .i64 b).wf = true) (_ : (Lit.int .i64 d).wf = true) (_ : (Lit.int .i64 f).wf = true) (hp : (Lit.int .i64 p).wf = true) (hq : (Lit.int .i64 q).wf = true) :
    Calls Try.prog 5 #[rv x y a b, .int .i64 d, .int .i64 f, .int .i64 p, .int .i64 q] w fun e w' => e = .returned (.bool true) ∧ Below w.heap.size w w' :=
  walk x y a b d f p q w (le_of_wf hp) (le_of_wf hq)
end Go.Proofs.Ytlcaepjgjdhmoaa.RectTellsW

