/- RectOut: what is beyond a rectangle is in none of its parts; a cell at each corner is in it; cut at every place it is the same whole: for every small rectangle and each direction, without a condition. -/
import Derived.Test.YtlcaepjgjdhmoaaKit2
import Derived.Test.YtlcaepjgjdhmoaaPRectWholex2
namespace Go.Proofs.Ytlcaepjgjdhmoaa.RectOutW
open Go.RowKit Go.Proofs.YtlcaepjgjdhmoaaKit2 Go.Proofs.Ytlcaepjgjdhmoaa.PRectWhole Go.Proofs.YtlcaepjgjdhmoaaW.PrintWords Go.Proofs.YtlcaepjgjdhmoaaW.PrintLast
set_option linter.unusedVariables false
set_option linter.unusedSimpArgs false

def oneB (n : Int) : Bool := decide (0 ≤ n) && decide (n ≤ 1000)
def okB (x y a b : Int) : Bool := oneB x && (oneB y && (oneB a && oneB b))
theorem one_eq (n : Int) : rect_one.f n = some (oneB n) := by
  unfold rect_one.f oneB
  by_cases h : n ≥ 0
  · rw [if_pos h, decide_eq_true (show 0 ≤ n from h), Bool.true_and]
  · rw [if_neg h, decide_eq_false (show ¬ 0 ≤ n from h), Bool.false_and]
theorem ok_eq (x y a b : Int) : rect_Ok.f x y a b = some (okB x y a b) := by
  unfold rect_Ok.f okB
  simp only [one_eq, Option.bind_some]
  cases oneB x <;> cases oneB y <;> cases oneB a <;> cases oneB b <;> rfl
theorem ok_true {x y a b : Int} (h1 : 0 ≤ x ∧ x ≤ 1000) (h2 : 0 ≤ y ∧ y ≤ 1000) (h3 : 0 ≤ a ∧ a ≤ 1000) (h4 : 0 ≤ b ∧ b ≤ 1000) : okB x y a b = true := by
  unfold okB oneB
  simp [h1.1, h1.2, h2.1, h2.2, h3.1, h3.2, h4.1, h4.2]
/-- Is the place in the rectangle? -/
def inB (x y a b p q : Int) : Bool := decide (x ≤ p ∧ p < x + a ∧ y ≤ q ∧ q < y + b)
theorem in_eq {x y a b : Int} (p q : Int) (h1 : 0 ≤ x ∧ x ≤ 1000) (h2 : 0 ≤ y ∧ y ≤ 1000) (h3 : 0 ≤ a ∧ a ≤ 1000) (h4 : 0 ≤ b ∧ b ≤ 1000) : rect_In.f x y a b p q = some (inB x y a b p q) := by
  have e1 : wrap64 (x + a) = x + a := by unfold wrap64; omega
  have e2 : wrap64 (y + b) = y + b := by unfold wrap64; omega
  unfold rect_In.f inB
  rw [ok_eq, ok_true h1 h2 h3 h4]
  simp only [Option.bind_some, if_true, e1, e2]
  by_cases c1 : p ≥ x
  · rw [if_pos c1]
    by_cases c2 : p < x + a
    · rw [if_pos c2]
      by_cases c3 : q ≥ y
      · rw [if_pos c3]; exact congrArg some (decide_eq_decide.2 (by omega))
      · rw [if_neg c3, decide_eq_false (by omega)]
    · rw [if_neg c2, decide_eq_false (by omega)]
  · rw [if_neg c1, decide_eq_false (by omega)]
theorem area_eq {x y a b : Int} (h1 : 0 ≤ x ∧ x ≤ 1000) (h2 : 0 ≤ y ∧ y ≤ 1000) (h3 : 0 ≤ a ∧ a ≤ 1000) (h4 : 0 ≤ b ∧ b ≤ 1000) : rect_Area.f x y a b = some (a * b) := by
  have e0 : 0 ≤ a * b := Int.mul_nonneg h3.1 h4.1
  have e1 : a * b ≤ 1000 * 1000 := Int.mul_le_mul h3.2 h4.2 h4.1 (by omega)
  unfold rect_Area.f
  rw [ok_eq, ok_true h1 h2 h3 h4]
  simp only [Option.bind_some, if_true]
  rw [show wrap64 (a * b) = a * b from by unfold wrap64; omega]
theorem wrap_small (n : Int) (h0 : -100000 ≤ n) (h1 : n ≤ 100000000) : wrap64 n = n := by unfold wrap64; omega
theorem inB_true {x y a b p q : Int} (h : x ≤ p ∧ p < x + a ∧ y ≤ q ∧ q < y + b) : inB x y a b p q = true := decide_eq_true h
theorem inB_false {x y a b p q : Int} (h : ¬ (x ≤ p ∧ p < x + a ∧ y ≤ q ∧ q < y + b)) : inB x y a b p q = false := decide_eq_false h

theorem i64w (n : Int) : IntKind.i64.wrap n = wrap64 n := by rw [IntKind.wrap_i64]; unfold wrap64; rfl
/-- A part lies within the whole, and is not empty. -/
structure Part (X Y W H x y a b : Int) : Prop where
  x0 : (x < X) = False
  y0 : (y < Y) = False
  x1 : (wrap64 (X + W) < wrap64 (x + a)) = False
  y1 : (wrap64 (Y + H) < wrap64 (y + b)) = False
  area : ∃ A, rect_Area.f x y a b = some A ∧ (A == 0) = false
theorem part_of {X Y W H x y a b : Int} (hX : 0 ≤ X ∧ X ≤ 15) (hY : 0 ≤ Y ∧ Y ≤ 15) (hW : 1 ≤ W ∧ W ≤ 16) (hH : 1 ≤ H ∧ H ≤ 16) (h1 : X ≤ x) (h2 : Y ≤ y) (h3 : x + a ≤ X + W) (h4 : y + b ≤ Y + H) (h5 : 1 ≤ a) (h6 : 1 ≤ b) : Part X Y W H x y a b := by
  refine ⟨eq_false (by omega), eq_false (by omega), eq_false ?_, eq_false ?_, a * b, area_eq (by omega) (by omega) (by omega) (by omega), beq_eq_false_iff_ne.2 ?_⟩
  · rw [wrap_small (X + W) (by omega) (by omega), wrap_small (x + a) (by omega) (by omega)]; omega
  · rw [wrap_small (Y + H) (by omega) (by omega), wrap_small (y + b) (by omega) (by omega)]; omega
  · have := Int.mul_le_mul h5 h6 (by omega) (by omega); omega
/-- How many cuts there are ahead of the place f. -/
def cnt (N f : Int) : Int := if f ≤ 1 then 0 else if f - 1 ≤ N - 2 then f - 1 else if N - 2 ≤ 0 then 0 else N - 2
theorem cnt_range {N f : Int} (h : f ≤ 20) (hN : N ≤ 16) : 0 ≤ cnt N f ∧ cnt N f ≤ 20 := by unfold cnt; (repeat' split) <;> omega
theorem cut_some {X Y W H d f : Int} (hX : 0 ≤ X ∧ X ≤ 15) (hY : 0 ≤ Y ∧ Y ≤ 15) (hW : 1 ≤ W ∧ W ≤ 16) (hH : 1 ≤ H ∧ H ≤ 16) (hd : d = 1 ∨ d = 2) (N : Int) (hN : N = if d = 1 then W else H) :
    (∃ p0 p1 p2 p3 p4 p5 p6 p7 p8 p9 p10 p11, rect_Cut.f X Y W H d f = some (p0, p1, p2, p3, p4, p5, p6, p7, p8, p9, p10, p11, true) ∧ cnt N (f + 1) = cnt N f + 1 ∧ Part X Y W H p0 p1 p2 p3 ∧ Part X Y W H p4 p5 p6 p7 ∧ Part X Y W H p8 p9 p10 p11) ∨
    (rect_Cut.f X Y W H d f = some (0, 0, 0, 0, 0, 0, 0, 0, 0, 0, 0, 0, false) ∧ cnt N (f + 1) = cnt N f) := by
  unfold rect_Cut.f
  rw [ok_eq, ok_true (by omega) (by omega) (by omega) (by omega)]
  simp only [Option.bind_some, if_true]
  subst hN
  by_cases c0 : f < 1
  · right; rw [if_pos c0]; refine ⟨rfl, ?_⟩; unfold cnt; rw [if_pos (by omega), if_pos (by omega)]
  · rw [if_neg c0]
    rcases hd with rfl | rfl
    · rw [if_pos rfl, if_pos rfl]
      by_cases c1 : f < W - 1
      · left; rw [if_pos c1]
        refine ⟨_, _, _, _, _, _, _, _, _, _, _, _, rfl, ?_, part_of hX hY hW hH ?_ ?_ ?_ ?_ ?_ ?_, part_of hX hY hW hH ?_ ?_ ?_ ?_ ?_ ?_, part_of hX hY hW hH ?_ ?_ ?_ ?_ ?_ ?_⟩
        all_goals first | omega | (unfold cnt; (repeat' split) <;> omega)
      · right; rw [if_neg c1]; refine ⟨rfl, ?_⟩; unfold cnt; (repeat' split) <;> omega
    · simp only [show ((2 : Int) = 1) = False from eq_false (by decide), if_false, if_true]
      by_cases c1 : f < H - 1
      · left; rw [if_pos c1]
        refine ⟨_, _, _, _, _, _, _, _, _, _, _, _, rfl, ?_, part_of hX hY hW hH ?_ ?_ ?_ ?_ ?_ ?_, part_of hX hY hW hH ?_ ?_ ?_ ?_ ?_ ?_, part_of hX hY hW hH ?_ ?_ ?_ ?_ ?_ ?_⟩
        all_goals first | omega | (unfold cnt; (repeat' split) <;> omega)
      · right; rw [if_neg c1]; refine ⟨rfl, ?_⟩; unfold cnt; (repeat' split) <;> omega
abbrev rv (x y a b : Int) : Value := .agg #[.int .i64 x, .int .i64 y, .int .i64 a, .int .i64 b]
attribute [local go_sem] cell_alloc_some cell_alloc2_some cell_alloc3_some cell_alloc4_some Ext.cell Ext.frozen
set_option maxHeartbeats 8000000 in
set_option maxRecDepth 100000 in
theorem walk (x y a b d : Int) (w : World) :
    Calls Try.prog 4 #[rv x y a b, .int .i64 d] w fun e w' => e = .returned (.bool true) ∧ Below w.heap.size w w' := by
  obtain ⟨X, hX0, hX⟩ : ∃ X, X = Go.bits .and .i64 x 15 ∧ (0 ≤ X ∧ X ≤ 15) := ⟨_, rfl, and_range 4 (by omega) x⟩
  obtain ⟨Y, hY0, hY⟩ : ∃ Y, Y = Go.bits .and .i64 y 15 ∧ (0 ≤ Y ∧ Y ≤ 15) := ⟨_, rfl, and_range 4 (by omega) y⟩
  obtain ⟨W, hW0, hW⟩ : ∃ W, W = wrap64 (Go.bits .and .i64 a 15 + 1) ∧ (1 ≤ W ∧ W ≤ 16) := ⟨_, rfl, by have h : 0 ≤ Go.bits .and .i64 a 15 ∧ Go.bits .and .i64 a 15 ≤ 15 := and_range 4 (by omega) a; rw [wrap_small _ (by omega) (by omega)]; omega⟩
  obtain ⟨H, hH0, hH⟩ : ∃ H, H = wrap64 (Go.bits .and .i64 b 15 + 1) ∧ (1 ≤ H ∧ H ≤ 16) := ⟨_, rfl, by have h : 0 ≤ Go.bits .and .i64 b 15 ∧ Go.bits .and .i64 b 15 ≤ 15 := and_range 4 (by omega) b; rw [wrap_small _ (by omega) (by omega)]; omega⟩
  obtain ⟨D, hD0, hD⟩ : ∃ D, D = wrap64 (Go.bits .and .i64 d 1 + 1) ∧ (D = 1 ∨ D = 2) := ⟨_, rfl, by have h : 0 ≤ Go.bits .and .i64 d 1 ∧ Go.bits .and .i64 d 1 ≤ 1 := and_range 1 (by omega) d; rw [wrap_small _ (by omega) (by omega)]; omega⟩
  have E0 := hide (And.intro hX (And.intro hY (And.intro hW (And.intro hH hD))))
  have bX := hX; have bY := hY; have bW := hW; have bH := hH
  clear hX hY hW hH hD
  have xw : wrap64 (X + W) = X + W := wrap_small _ (by omega) (by omega)
  have yh : wrap64 (Y + H) = Y + H := wrap_small _ (by omega) (by omega)
  have I1 := hide (fun V => rect_In.calls X Y W H X Y true V (by rw [in_eq _ _ (by omega) (by omega) (by omega) (by omega), inB_true (by omega)]))
  have I2 := hide (fun V => rect_In.calls X Y W H (IntKind.i64.wrap (IntKind.i64.wrap (X + W) - 1)) (IntKind.i64.wrap (IntKind.i64.wrap (Y + H) - 1)) true V (by simp only [i64w]; rw [in_eq _ _ (by omega) (by omega) (by omega) (by omega), xw, yh, wrap_small (X + W - 1) (by omega) (by omega), wrap_small (Y + H - 1) (by omega) (by omega), inB_true (by omega)]))
  have I3 := hide (fun V => rect_In.calls X Y W H (IntKind.i64.wrap (X - 1)) Y false V (by simp only [i64w]; rw [in_eq _ _ (by omega) (by omega) (by omega) (by omega), wrap_small (X - 1) (by omega) (by omega), inB_false (by omega)]))
  have I4 := hide (fun V => rect_In.calls X Y W H (IntKind.i64.wrap (X + W)) Y false V (by simp only [i64w]; rw [in_eq _ _ (by omega) (by omega) (by omega) (by omega), xw, inB_false (by omega)]))
  have I5 := hide (fun V => rect_In.calls X Y W H X (IntKind.i64.wrap (Y + H)) false V (by simp only [i64w]; rw [in_eq _ _ (by omega) (by omega) (by omega) (by omega), yh, inB_false (by omega)]))
  have I6 := hide (fun V => rect_In.calls X Y W H X (IntKind.i64.wrap (Y - 1)) false V (by simp only [i64w]; rw [in_eq _ _ (by omega) (by omega) (by omega) (by omega), wrap_small (Y - 1) (by omega) (by omega), inB_false (by omega)]))
  have I7 := hide (fun V => rect_Area.calls X Y W H (IntKind.i64.wrap (W * H)) V (by
    have e0 : 0 ≤ W * H := Int.mul_nonneg (by omega) (by omega)
    have e1 : W * H ≤ 16 * 16 := Int.mul_le_mul (by omega) (by omega) (by omega) (by omega)
    rw [i64w, area_eq (by omega) (by omega) (by omega) (by omega), wrap_small (W * H) (by omega) (by omega)]))
  clear bX bY bW bH xw yh
  go_enter Try.func4, Try.ntmps4
  go_wp2_with fail
  apply wp_letter1 (w.heap.size) w (w.heap.size) 23
  case h0 => (repeat (first | (with_reducible assumption) | (with_reducible apply bs_same) | (with_reducible apply bs_far; case hp => (dsimp only; omega)) | (with_reducible apply bs_drew) | (with_reducible apply bs_drewN) | (with_reducible apply bs_new; (first | (with_reducible rfl) | (simp; done))) | (with_reducible apply bs_alloc) | (with_reducible apply bs_below; (case hb => with_reducible assumption); (case hB => first | omega | (simp; omega) | (simp; done)))))
  case hb => (repeat (first | (with_reducible assumption) | with_reducible exact be_refl _ | (with_reducible refine be_set ?_ (by dsimp only; omega)) | (with_reducible apply be_drew) | (with_reducible apply be_drewN) | (with_reducible refine be_alloc ?_ (by first | omega | (simp; omega) | simp)) | (with_reducible refine be_call (by with_reducible assumption) (by first | omega | (simp; omega) | simp) ?_)))
  intro w1_ k1_0 HB1
  try simp only [List.setIfInBounds_toArray, List.set_cons_zero, List.set_cons_succ] at k1_0
  obtain ⟨c1_0_0, c1_0_1, c1_0_2, c1_0_3, f1_0⟩ := cells4 k1_0
  have s1_0 := bs_lt k1_0
  rw [← hX0] at c1_0_0 k1_0
  rw [← hY0] at c1_0_1 k1_0
  rw [← hW0] at c1_0_2 k1_0
  rw [← hH0] at c1_0_3 k1_0
  have K0 := k1_0
  subst hD0
  clear hX0 hY0 hW0 hH0
  refine wp_region_fresh_lit (by kernel_rfl) (by kernel_rfl) ?_
  repeat (quiet_step (fail))
  quiet_step ((go_at_call 9; apply fresh_call; with_reducible exact I1.out _))
  repeat (quiet_step (fail))
  quiet_step ((go_at_call 9; apply fresh_call; with_reducible exact I2.out _))
  repeat (quiet_step (fail))
  quiet_step ((go_at_call 9; apply fresh_call; with_reducible exact I3.out _))
  repeat (quiet_step (fail))
  quiet_step ((go_at_call 9; apply fresh_call; with_reducible exact I4.out _))
  repeat (quiet_step (fail))
  quiet_step ((go_at_call 9; apply fresh_call; with_reducible exact I5.out _))
  repeat (quiet_step (fail))
  quiet_step ((go_at_call 9; apply fresh_call; with_reducible exact I6.out _))
  repeat (quiet_step (fail))
  quiet_step ((go_at_call 10; apply fresh_call; with_reducible exact I7.out _))
  repeat (quiet_step (fail))
  refine wpQuiet_nil ?_
  rintro _ ⟨⟨W6, hb6⟩, rfl⟩
  (try dsimp only)
  obtain ⟨hc6, hf6⟩ := be_known hb6
  have y6 := hb6.size
  have HB6 := HB1.trans (hb6.mono (by omega))
  have B6 := bs_below hb6 s1_0 K0
  clear hc6 hf6 y6 hb6 HB1 K0 k1_0 c1_0_0 c1_0_1 c1_0_2 c1_0_3 f1_0 s1_0 I1 I2 I3 I4 I5 I6 I7
  obtain ⟨N, hN⟩ : ∃ N, N = if wrap64 (Go.bits .and .i64 d 1 + 1) = 1 then W else H := ⟨_, rfl⟩
  have NN := hide hN
  clear hN
  go_wp2_with fail
  go_loopw [5, 6] (fun s5 s6 V => ∃ (f : Int), (-1 ≤ f ∧ f ≤ 20) ∧ s6 = .int .i64 f ∧ s5 = .int .i64 (cnt N f) ∧ V.heap[w.heap.size]? = some (.cells #[.int .i64 X, .int .i64 Y, .int .i64 W, .int .i64 H] 23 (0, 0)) ∧ Below w.heap.size w V) (fun _ f _ => (20 - intOf f).toNat)
  case atStart => exact ⟨-1, ⟨by omega, by omega⟩, rfl, rfl, by (repeat (first | (with_reducible assumption) | (with_reducible apply bs_same) | (with_reducible apply bs_far; case hp => (dsimp only; omega)) | (with_reducible apply bs_drew) | (with_reducible apply bs_drewN) | (with_reducible apply bs_new; (first | (with_reducible rfl) | (simp; done))) | (with_reducible apply bs_alloc) | (with_reducible apply bs_below; (case hb => with_reducible assumption); (case hB => first | omega | (simp; omega) | (simp; done))))), by (repeat (first | (with_reducible assumption) | with_reducible exact be_refl _ | (with_reducible refine be_set ?_ (by dsimp only; omega)) | (with_reducible apply be_drew) | (with_reducible apply be_drewN) | (with_reducible refine be_alloc ?_ (by first | omega | (simp; omega) | simp)) | (with_reducible refine be_call (by with_reducible assumption) (by first | omega | (simp; omega) | simp) ?_)))⟩
  case round =>
    obtain ⟨f, ⟨f0, f1⟩, rfl, rfl, hB, hb⟩ := hrel
    have RF := hide (And.intro f0 f1)
    clear f0 f1
    obtain ⟨c0, c1, c2, c3, fz⟩ := cells4 hB
    have s0 := bs_lt hB
    by_cases hlt : f < 20
    · have P0 := eq_true hlt
      clear hlt
      obtain ⟨hX, hY, hW, hH, hD⟩ := E0.out
      have CC := cut_some (f := f) hX hY hW hH hD N NN.out
      clear hX hY hW hH hD
      rcases CC with ⟨p0, p1, p2, p3, p4, p5, p6, p7, p8, p9, p10, p11, hcut, hcnt, q0, q1, q2⟩ | ⟨hcut, hcnt⟩
      · have H1 := hide hcut
        have HC := hide hcnt
        have Q0 := hide q0; have Q1 := hide q1; have Q2 := hide q2
        clear hcut hcnt q0 q1 q2
        go_upto_region 12 with (go_at_call 7; refine (rect_Cut.calls _ _ _ _ _ _ _ _ _ _ _ _ _ _ _ _ _ _ _ _ H1.out).mono ?_; rintro e v1 ⟨rfl, hb1⟩; obtain ⟨hc1, hf1⟩ := be_known hb1; have y1 := hb1.size)
        have z0 : w.heap.size < v1.heap.size := by omega
        apply wp_letter4 (w.heap.size) w (w.heap.size) 23 (v1.heap.size) 23 (v1.heap.size + 1) 23 (v1.heap.size + 1 + 1) 23
        case h0 => (repeat (first | (with_reducible assumption) | (with_reducible apply bs_same) | (with_reducible apply bs_far; case hp => (dsimp only; omega)) | (with_reducible apply bs_drew) | (with_reducible apply bs_drewN) | (with_reducible apply bs_new; (first | (with_reducible rfl) | (simp; done))) | (with_reducible apply bs_alloc) | (with_reducible apply bs_below; (case hb => with_reducible assumption); (case hB => first | omega | (simp; omega) | (simp; done)))))
        case h1 => (repeat (first | (with_reducible assumption) | (with_reducible apply bs_same) | (with_reducible apply bs_far; case hp => (dsimp only; omega)) | (with_reducible apply bs_drew) | (with_reducible apply bs_drewN) | (with_reducible apply bs_new; (first | (with_reducible rfl) | (simp; done))) | (with_reducible apply bs_alloc) | (with_reducible apply bs_below; (case hb => with_reducible assumption); (case hB => first | omega | (simp; omega) | (simp; done)))))
        case h2 => (repeat (first | (with_reducible assumption) | (with_reducible apply bs_same) | (with_reducible apply bs_far; case hp => (dsimp only; omega)) | (with_reducible apply bs_drew) | (with_reducible apply bs_drewN) | (with_reducible apply bs_new; (first | (with_reducible rfl) | (simp; done))) | (with_reducible apply bs_alloc) | (with_reducible apply bs_below; (case hb => with_reducible assumption); (case hB => first | omega | (simp; omega) | (simp; done)))))
        case h3 => (repeat (first | (with_reducible assumption) | (with_reducible apply bs_same) | (with_reducible apply bs_far; case hp => (dsimp only; omega)) | (with_reducible apply bs_drew) | (with_reducible apply bs_drewN) | (with_reducible apply bs_new; (first | (with_reducible rfl) | (simp; done))) | (with_reducible apply bs_alloc) | (with_reducible apply bs_below; (case hb => with_reducible assumption); (case hB => first | omega | (simp; omega) | (simp; done)))))
        case hb => (repeat (first | (with_reducible assumption) | with_reducible exact be_refl _ | (with_reducible refine be_set ?_ (by dsimp only; omega)) | (with_reducible apply be_drew) | (with_reducible apply be_drewN) | (with_reducible refine be_alloc ?_ (by first | omega | (simp; omega) | simp)) | (with_reducible refine be_call (by with_reducible assumption) (by first | omega | (simp; omega) | simp) ?_)))
        intro w2_ k2_0 k2_1 k2_2 k2_3 HB2
        try simp only [List.setIfInBounds_toArray, List.set_cons_zero, List.set_cons_succ] at k2_0 k2_1 k2_2 k2_3
        clear c0 c1 c2 c3 fz hB hb1 hc1 hf1 y1
        obtain ⟨c2_0_0, c2_0_1, c2_0_2, c2_0_3, f2_0⟩ := cells4 k2_0
        have s2_0 := bs_lt k2_0
        obtain ⟨c2_1_0, c2_1_1, c2_1_2, c2_1_3, f2_1⟩ := cells4 k2_1
        have s2_1 := bs_lt k2_1
        obtain ⟨c2_2_0, c2_2_1, c2_2_2, c2_2_3, f2_2⟩ := cells4 k2_2
        have s2_2 := bs_lt k2_2
        obtain ⟨c2_3_0, c2_3_1, c2_3_2, c2_3_3, f2_3⟩ := cells4 k2_3
        have s2_3 := bs_lt k2_3
        go_wp2_with fail
        go_loopw [127] (fun s127 U => ∃ (k : Nat), k ≤ 3 ∧ s127 = .int .i64 k ∧ U.heap[w.heap.size]? = some (.cells #[.int .i64 X, .int .i64 Y, .int .i64 W, .int .i64 H] 23 (0, 0)) ∧ U.heap[w2_.heap.size]? = some (.cells #[.int .i64 p0, .int .i64 p1, .int .i64 p2, .int .i64 p3, .int .i64 p4, .int .i64 p5, .int .i64 p6, .int .i64 p7, .int .i64 p8, .int .i64 p9, .int .i64 p10, .int .i64 p11] 23 (0, 0)) ∧ Below w.heap.size w U) (fun k _ => 3 - (intOf k).toNat)
        case atStart => exact ⟨0, by omega, rfl, by (repeat (first | (with_reducible assumption) | (with_reducible apply bs_same) | (with_reducible apply bs_far; case hp => (dsimp only; omega)) | (with_reducible apply bs_drew) | (with_reducible apply bs_drewN) | (with_reducible apply bs_new; (first | (with_reducible rfl) | (simp; done))) | (with_reducible apply bs_alloc) | (with_reducible apply bs_below; (case hb => with_reducible assumption); (case hB => first | omega | (simp; omega) | (simp; done))))), by (apply bs_eq; (case h => (repeat (first | (with_reducible assumption) | (with_reducible apply bs_same) | (with_reducible apply bs_far; case hp => (dsimp only; omega)) | (with_reducible apply bs_drew) | (with_reducible apply bs_drewN) | (with_reducible apply bs_new; (first | (with_reducible rfl) | (simp; done))) | (with_reducible apply bs_alloc) | (with_reducible apply bs_below; (case hb => with_reducible assumption); (case hB => first | omega | (simp; omega) | (simp; done)))))); (case e => rfl)), by (repeat (first | (with_reducible assumption) | with_reducible exact be_refl _ | (with_reducible refine be_set ?_ (by dsimp only; omega)) | (with_reducible apply be_drew) | (with_reducible apply be_drewN) | (with_reducible refine be_alloc ?_ (by first | omega | (simp; omega) | simp)) | (with_reducible refine be_call (by with_reducible assumption) (by first | omega | (simp; omega) | simp) ?_)))⟩
        case round =>
          clear c2_0_0 c2_0_1 c2_0_2 c2_0_3 f2_0 c2_1_0 c2_1_1 c2_1_2 c2_1_3 f2_1 c2_2_0 c2_2_1 c2_2_2 c2_2_3 f2_2 c2_3_0 c2_3_1 c2_3_2 c2_3_3 f2_3 k2_0 k2_1 k2_2 k2_3
          obtain ⟨k, hk, rfl, hP, hG, hU⟩ := hrel
          have sG := bs_lt hG
          obtain ⟨c0, c1, c2, c3, fz⟩ := cells4 hP
          obtain ⟨g0, g1, g2, g3, g4, g5, g6, g7, g8, g9, g10, g11, fg⟩ := cells12 hG
          obtain ⟨wo, rfl⟩ : ∃ wo : World, wo = wr := ⟨_, rfl⟩
          rcases (show k = 0 ∨ k = 1 ∨ k = 2 ∨ k = 3 by omega) with rfl | rfl | rfl | rfl
          · go_upto_region 15 with fail
            apply wp_letter3 (w.heap.size) w (w.heap.size) 23 (w2_.heap.size) 23 (wo.heap.size) 23
            case h0 => (repeat (first | (with_reducible assumption) | (with_reducible apply bs_same) | (with_reducible apply bs_far; case hp => (dsimp only; omega)) | (with_reducible apply bs_drew) | (with_reducible apply bs_drewN) | (with_reducible apply bs_new; (first | (with_reducible rfl) | (simp; done))) | (with_reducible apply bs_alloc) | (with_reducible apply bs_below; (case hb => with_reducible assumption); (case hB => first | omega | (simp; omega) | (simp; done)))))
            case h1 => (repeat (first | (with_reducible assumption) | (with_reducible apply bs_same) | (with_reducible apply bs_far; case hp => (dsimp only; omega)) | (with_reducible apply bs_drew) | (with_reducible apply bs_drewN) | (with_reducible apply bs_new; (first | (with_reducible rfl) | (simp; done))) | (with_reducible apply bs_alloc) | (with_reducible apply bs_below; (case hb => with_reducible assumption); (case hB => first | omega | (simp; omega) | (simp; done)))))
            case h2 => (repeat (first | (with_reducible assumption) | (with_reducible apply bs_same) | (with_reducible apply bs_far; case hp => (dsimp only; omega)) | (with_reducible apply bs_drew) | (with_reducible apply bs_drewN) | (with_reducible apply bs_new; (first | (with_reducible rfl) | (simp; done))) | (with_reducible apply bs_alloc) | (with_reducible apply bs_below; (case hb => with_reducible assumption); (case hB => first | omega | (simp; omega) | (simp; done)))))
            case hb => (repeat (first | (with_reducible assumption) | with_reducible exact be_refl _ | (with_reducible refine be_set ?_ (by dsimp only; omega)) | (with_reducible apply be_drew) | (with_reducible apply be_drewN) | (with_reducible refine be_alloc ?_ (by first | omega | (simp; omega) | simp)) | (with_reducible refine be_call (by with_reducible assumption) (by first | omega | (simp; omega) | simp) ?_)))
            intro w3_ k3_0 k3_1 k3_2 HB3
            try simp only [List.setIfInBounds_toArray, List.set_cons_zero, List.set_cons_succ] at k3_0 k3_1 k3_2
            clear c0 c1 c2 c3 fz g0 g1 g2 g3 g4 g5 g6 g7 g8 g9 g10 g11 fg hP hG
            obtain ⟨c3_0_0, c3_0_1, c3_0_2, c3_0_3, f3_0⟩ := cells4 k3_0
            have s3_0 := bs_lt k3_0
            obtain ⟨c3_1_0, c3_1_1, c3_1_2, c3_1_3, c3_1_4, c3_1_5, c3_1_6, c3_1_7, c3_1_8, c3_1_9, c3_1_10, c3_1_11, f3_1⟩ := cells12 k3_1
            have s3_1 := bs_lt k3_1
            obtain ⟨c3_2_0, c3_2_1, c3_2_2, c3_2_3, f3_2⟩ := cells4 k3_2
            have s3_2 := bs_lt k3_2
            obtain ⟨e1, e2, e3, e4, A, hA, e5⟩ := Q0.out
            have HA := hide hA
            clear hA
            go_wp2_with (go_at_call 10; refine (rect_Area.calls _ _ _ _ _ _ HA.out).mono ?_; rintro e W7 ⟨rfl, hb7⟩; have y7 := hb7.size)
            refine ⟨⟨1, by omega, by first | rfl | (simp; done) | go_num, by (repeat (first | (with_reducible assumption) | (with_reducible apply bs_same) | (with_reducible apply bs_far; case hp => (dsimp only; omega)) | (with_reducible apply bs_drew) | (with_reducible apply bs_drewN) | (with_reducible apply bs_new; (first | (with_reducible rfl) | (simp; done))) | (with_reducible apply bs_alloc) | (with_reducible apply bs_below; (case hb => with_reducible assumption); (case hB => first | omega | (simp; omega) | (simp; done))))), by (repeat (first | (with_reducible assumption) | (with_reducible apply bs_same) | (with_reducible apply bs_far; case hp => (dsimp only; omega)) | (with_reducible apply bs_drew) | (with_reducible apply bs_drewN) | (with_reducible apply bs_new; (first | (with_reducible rfl) | (simp; done))) | (with_reducible apply bs_alloc) | (with_reducible apply bs_below; (case hb => with_reducible assumption); (case hB => first | omega | (simp; omega) | (simp; done))))), by (repeat (first | (with_reducible assumption) | with_reducible exact be_refl _ | (with_reducible refine be_set ?_ (by dsimp only; omega)) | (with_reducible apply be_drew) | (with_reducible apply be_drewN) | (with_reducible refine be_alloc ?_ (by first | omega | (simp; omega) | simp)) | (with_reducible refine be_call (by with_reducible assumption) (by first | omega | (simp; omega) | simp) ?_)))⟩, ?_⟩
            simp [intOf]
          · go_upto_region 15 with fail
            apply wp_letter3 (w.heap.size) w (w.heap.size) 23 (w2_.heap.size) 23 (wo.heap.size) 23
            case h0 => (repeat (first | (with_reducible assumption) | (with_reducible apply bs_same) | (with_reducible apply bs_far; case hp => (dsimp only; omega)) | (with_reducible apply bs_drew) | (with_reducible apply bs_drewN) | (with_reducible apply bs_new; (first | (with_reducible rfl) | (simp; done))) | (with_reducible apply bs_alloc) | (with_reducible apply bs_below; (case hb => with_reducible assumption); (case hB => first | omega | (simp; omega) | (simp; done)))))
            case h1 => (repeat (first | (with_reducible assumption) | (with_reducible apply bs_same) | (with_reducible apply bs_far; case hp => (dsimp only; omega)) | (with_reducible apply bs_drew) | (with_reducible apply bs_drewN) | (with_reducible apply bs_new; (first | (with_reducible rfl) | (simp; done))) | (with_reducible apply bs_alloc) | (with_reducible apply bs_below; (case hb => with_reducible assumption); (case hB => first | omega | (simp; omega) | (simp; done)))))
            case h2 => (repeat (first | (with_reducible assumption) | (with_reducible apply bs_same) | (with_reducible apply bs_far; case hp => (dsimp only; omega)) | (with_reducible apply bs_drew) | (with_reducible apply bs_drewN) | (with_reducible apply bs_new; (first | (with_reducible rfl) | (simp; done))) | (with_reducible apply bs_alloc) | (with_reducible apply bs_below; (case hb => with_reducible assumption); (case hB => first | omega | (simp; omega) | (simp; done)))))
            case hb => (repeat (first | (with_reducible assumption) | with_reducible exact be_refl _ | (with_reducible refine be_set ?_ (by dsimp only; omega)) | (with_reducible apply be_drew) | (with_reducible apply be_drewN) | (with_reducible refine be_alloc ?_ (by first | omega | (simp; omega) | simp)) | (with_reducible refine be_call (by with_reducible assumption) (by first | omega | (simp; omega) | simp) ?_)))
            intro w4_ k4_0 k4_1 k4_2 HB4
            try simp only [List.setIfInBounds_toArray, List.set_cons_zero, List.set_cons_succ] at k4_0 k4_1 k4_2
            clear c0 c1 c2 c3 fz g0 g1 g2 g3 g4 g5 g6 g7 g8 g9 g10 g11 fg hP hG
            obtain ⟨c4_0_0, c4_0_1, c4_0_2, c4_0_3, f4_0⟩ := cells4 k4_0
            have s4_0 := bs_lt k4_0
            obtain ⟨c4_1_0, c4_1_1, c4_1_2, c4_1_3, c4_1_4, c4_1_5, c4_1_6, c4_1_7, c4_1_8, c4_1_9, c4_1_10, c4_1_11, f4_1⟩ := cells12 k4_1
            have s4_1 := bs_lt k4_1
            obtain ⟨c4_2_0, c4_2_1, c4_2_2, c4_2_3, f4_2⟩ := cells4 k4_2
            have s4_2 := bs_lt k4_2
            obtain ⟨e1, e2, e3, e4, A, hA, e5⟩ := Q1.out
            have HA := hide hA
            clear hA
            go_wp2_with (go_at_call 10; refine (rect_Area.calls _ _ _ _ _ _ HA.out).mono ?_; rintro e W7 ⟨rfl, hb7⟩; have y7 := hb7.size)
            refine ⟨⟨2, by omega, by first | rfl | (simp; done) | go_num, by (repeat (first | (with_reducible assumption) | (with_reducible apply bs_same) | (with_reducible apply bs_far; case hp => (dsimp only; omega)) | (with_reducible apply bs_drew) | (with_reducible apply bs_drewN) | (with_reducible apply bs_new; (first | (with_reducible rfl) | (simp; done))) | (with_reducible apply bs_alloc) | (with_reducible apply bs_below; (case hb => with_reducible assumption); (case hB => first | omega | (simp; omega) | (simp; done))))), by (repeat (first | (with_reducible assumption) | (with_reducible apply bs_same) | (with_reducible apply bs_far; case hp => (dsimp only; omega)) | (with_reducible apply bs_drew) | (with_reducible apply bs_drewN) | (with_reducible apply bs_new; (first | (with_reducible rfl) | (simp; done))) | (with_reducible apply bs_alloc) | (with_reducible apply bs_below; (case hb => with_reducible assumption); (case hB => first | omega | (simp; omega) | (simp; done))))), by (repeat (first | (with_reducible assumption) | with_reducible exact be_refl _ | (with_reducible refine be_set ?_ (by dsimp only; omega)) | (with_reducible apply be_drew) | (with_reducible apply be_drewN) | (with_reducible refine be_alloc ?_ (by first | omega | (simp; omega) | simp)) | (with_reducible refine be_call (by with_reducible assumption) (by first | omega | (simp; omega) | simp) ?_)))⟩, ?_⟩
            simp [intOf]
          · go_upto_region 15 with fail
            apply wp_letter3 (w.heap.size) w (w.heap.size) 23 (w2_.heap.size) 23 (wo.heap.size) 23
            case h0 => (repeat (first | (with_reducible assumption) | (with_reducible apply bs_same) | (with_reducible apply bs_far; case hp => (dsimp only; omega)) | (with_reducible apply bs_drew) | (with_reducible apply bs_drewN) | (with_reducible apply bs_new; (first | (with_reducible rfl) | (simp; done))) | (with_reducible apply bs_alloc) | (with_reducible apply bs_below; (case hb => with_reducible assumption); (case hB => first | omega | (simp; omega) | (simp; done)))))
            case h1 => (repeat (first | (with_reducible assumption) | (with_reducible apply bs_same) | (with_reducible apply bs_far; case hp => (dsimp only; omega)) | (with_reducible apply bs_drew) | (with_reducible apply bs_drewN) | (with_reducible apply bs_new; (first | (with_reducible rfl) | (simp; done))) | (with_reducible apply bs_alloc) | (with_reducible apply bs_below; (case hb => with_reducible assumption); (case hB => first | omega | (simp; omega) | (simp; done)))))
            case h2 => (repeat (first | (with_reducible assumption) | (with_reducible apply bs_same) | (with_reducible apply bs_far; case hp => (dsimp only; omega)) | (with_reducible apply bs_drew) | (with_reducible apply bs_drewN) | (with_reducible apply bs_new; (first | (with_reducible rfl) | (simp; done))) | (with_reducible apply bs_alloc) | (with_reducible apply bs_below; (case hb => with_reducible assumption); (case hB => first | omega | (simp; omega) | (simp; done)))))
            case hb => (repeat (first | (with_reducible assumption) | with_reducible exact be_refl _ | (with_reducible refine be_set ?_ (by dsimp only; omega)) | (with_reducible apply be_drew) | (with_reducible apply be_drewN) | (with_reducible refine be_alloc ?_ (by first | omega | (simp; omega) | simp)) | (with_reducible refine be_call (by with_reducible assumption) (by first | omega | (simp; omega) | simp) ?_)))
            intro w5_ k5_0 k5_1 k5_2 HB5
            try simp only [List.setIfInBounds_toArray, List.set_cons_zero, List.set_cons_succ] at k5_0 k5_1 k5_2
            clear c0 c1 c2 c3 fz g0 g1 g2 g3 g4 g5 g6 g7 g8 g9 g10 g11 fg hP hG
            obtain ⟨c5_0_0, c5_0_1, c5_0_2, c5_0_3, f5_0⟩ := cells4 k5_0
            have s5_0 := bs_lt k5_0
            obtain ⟨c5_1_0, c5_1_1, c5_1_2, c5_1_3, c5_1_4, c5_1_5, c5_1_6, c5_1_7, c5_1_8, c5_1_9, c5_1_10, c5_1_11, f5_1⟩ := cells12 k5_1
            have s5_1 := bs_lt k5_1
            obtain ⟨c5_2_0, c5_2_1, c5_2_2, c5_2_3, f5_2⟩ := cells4 k5_2
            have s5_2 := bs_lt k5_2
            obtain ⟨e1, e2, e3, e4, A, hA, e5⟩ := Q2.out
            have HA := hide hA
            clear hA
            go_wp2_with (go_at_call 10; refine (rect_Area.calls _ _ _ _ _ _ HA.out).mono ?_; rintro e W7 ⟨rfl, hb7⟩; have y7 := hb7.size)
            refine ⟨⟨3, by omega, by first | rfl | (simp; done) | go_num, by (repeat (first | (with_reducible assumption) | (with_reducible apply bs_same) | (with_reducible apply bs_far; case hp => (dsimp only; omega)) | (with_reducible apply bs_drew) | (with_reducible apply bs_drewN) | (with_reducible apply bs_new; (first | (with_reducible rfl) | (simp; done))) | (with_reducible apply bs_alloc) | (with_reducible apply bs_below; (case hb => with_reducible assumption); (case hB => first | omega | (simp; omega) | (simp; done))))), by (repeat (first | (with_reducible assumption) | (with_reducible apply bs_same) | (with_reducible apply bs_far; case hp => (dsimp only; omega)) | (with_reducible apply bs_drew) | (with_reducible apply bs_drewN) | (with_reducible apply bs_new; (first | (with_reducible rfl) | (simp; done))) | (with_reducible apply bs_alloc) | (with_reducible apply bs_below; (case hb => with_reducible assumption); (case hB => first | omega | (simp; omega) | (simp; done))))), by (repeat (first | (with_reducible assumption) | with_reducible exact be_refl _ | (with_reducible refine be_set ?_ (by dsimp only; omega)) | (with_reducible apply be_drew) | (with_reducible apply be_drewN) | (with_reducible refine be_alloc ?_ (by first | omega | (simp; omega) | simp)) | (with_reducible refine be_call (by with_reducible assumption) (by first | omega | (simp; omega) | simp) ?_)))⟩, ?_⟩
            simp [intOf]
          · go_wp2_with fail
            have b1 := RF.out.1; have b2 := of_eq_true P0
            have hw : wrap64 (f + 1) = f + 1 := wrap_small _ (by omega) (by omega)
            have hr := cnt_range (N := N) (f := f) (by omega) (by have h := NN.out; have := E0.out; rw [h]; split <;> omega)
            refine ⟨⟨f + 1, ⟨by omega, by omega⟩, by rw [hw], by rw [HC.out, wrap_small _ (by omega) (by omega)], by (repeat (first | (with_reducible assumption) | (with_reducible apply bs_same) | (with_reducible apply bs_far; case hp => (dsimp only; omega)) | (with_reducible apply bs_drew) | (with_reducible apply bs_drewN) | (with_reducible apply bs_new; (first | (with_reducible rfl) | (simp; done))) | (with_reducible apply bs_alloc) | (with_reducible apply bs_below; (case hb => with_reducible assumption); (case hB => first | omega | (simp; omega) | (simp; done))))), by (repeat (first | (with_reducible assumption) | with_reducible exact be_refl _ | (with_reducible refine be_set ?_ (by dsimp only; omega)) | (with_reducible apply be_drew) | (with_reducible apply be_drewN) | (with_reducible refine be_alloc ?_ (by first | omega | (simp; omega) | simp)) | (with_reducible refine be_call (by with_reducible assumption) (by first | omega | (simp; omega) | simp) ?_)))⟩, ?_⟩
            rw [hw]; simp only [intOf]; omega
      · have H1 := hide hcut
        have HC := hide hcnt
        clear hcut hcnt
        go_wp2_with (go_at_call 7; refine (rect_Cut.calls _ _ _ _ _ _ _ _ _ _ _ _ _ _ _ _ _ _ _ _ H1.out).mono ?_; rintro e v1 ⟨rfl, hb1⟩; obtain ⟨hc1, hf1⟩ := be_known hb1; have y1 := hb1.size)
        have b1 := RF.out.1; have b2 := of_eq_true P0
        have hw : wrap64 (f + 1) = f + 1 := wrap_small _ (by omega) (by omega)
        have z0 : w.heap.size < v1.heap.size := by omega
        refine ⟨⟨f + 1, ⟨by omega, by omega⟩, by rw [hw], by rw [HC.out], by (repeat (first | (with_reducible assumption) | (with_reducible apply bs_same) | (with_reducible apply bs_far; case hp => (dsimp only; omega)) | (with_reducible apply bs_drew) | (with_reducible apply bs_drewN) | (with_reducible apply bs_new; (first | (with_reducible rfl) | (simp; done))) | (with_reducible apply bs_alloc) | (with_reducible apply bs_below; (case hb => with_reducible assumption); (case hB => first | omega | (simp; omega) | (simp; done))))), by (repeat (first | (with_reducible assumption) | with_reducible exact be_refl _ | (with_reducible refine be_set ?_ (by dsimp only; omega)) | (with_reducible apply be_drew) | (with_reducible apply be_drewN) | (with_reducible refine be_alloc ?_ (by first | omega | (simp; omega) | simp)) | (with_reducible refine be_call (by with_reducible assumption) (by first | omega | (simp; omega) | simp) ?_)))⟩, ?_⟩
        rw [hw]; simp only [intOf]; omega
    · have hf : f = 20 := by have := RF.out.2; omega
      subst hf
      rcases E0.out.2.2.2.2 with hD | hD
      · have hn : N = W := by have h := NN.out; rw [hD, if_pos rfl] at h; exact h
        clear NN
        subst hn
        rw [hD]
        have hv : (cnt N 20 = 0 ∧ N - 2 ≤ 0) ∨ (cnt N 20 = N - 2 ∧ 0 < N - 2) := by have := E0.out; unfold cnt; (repeat' split) <;> omega
        have hw : wrap64 (N - 2) = N - 2 := wrap_small _ (by have := E0.out; omega) (by have := E0.out; omega)
        have HV := hide hv
        have HW := hide hw
        clear hv hw
        go_wp2_with (go_at_call 8; refine (polyptychlaw9_awake.calls true _ rfl).mono ?_; rintro e v1 ⟨rfl, hb1⟩)
        all_goals first | (go_ret; exact ⟨rfl, by (repeat (first | (with_reducible assumption) | with_reducible exact be_refl _ | (with_reducible refine be_set ?_ (by dsimp only; omega)) | (with_reducible apply be_drew) | (with_reducible apply be_drewN) | (with_reducible refine be_alloc ?_ (by first | omega | (simp; omega) | simp)) | (with_reducible refine be_call (by with_reducible assumption) (by first | omega | (simp; omega) | simp) ?_)))⟩) | (exfalso; have h1 := HV.out; have h2 := HW.out; omega)
      · have hn : N = H := by have h := NN.out; rw [hD, if_neg (by decide)] at h; exact h
        clear NN
        subst hn
        rw [hD]
        have hv : (cnt N 20 = 0 ∧ N - 2 ≤ 0) ∨ (cnt N 20 = N - 2 ∧ 0 < N - 2) := by have := E0.out; unfold cnt; (repeat' split) <;> omega
        have hw : wrap64 (N - 2) = N - 2 := wrap_small _ (by have := E0.out; omega) (by have := E0.out; omega)
        have HV := hide hv
        have HW := hide hw
        clear hv hw
        go_wp2_with (go_at_call 8; refine (polyptychlaw9_awake.calls true _ rfl).mono ?_; rintro e v1 ⟨rfl, hb1⟩)
        all_goals first | (go_ret; exact ⟨rfl, by (repeat (first | (with_reducible assumption) | with_reducible exact be_refl _ | (with_reducible refine be_set ?_ (by dsimp only; omega)) | (with_reducible apply be_drew) | (with_reducible apply be_drewN) | (with_reducible refine be_alloc ?_ (by first | omega | (simp; omega) | simp)) | (with_reducible refine be_call (by with_reducible assumption) (by first | omega | (simp; omega) | simp) ?_)))⟩) | (exfalso; have h1 := HV.out; have h2 := HW.out; omega)
theorem walkR (x y a b d : Int) (w : World) (_ : (Lit.int .i64 x).wf = true) (_ : (Lit.int .i64 y).wf = true) (_ : (Lit.int .i64 a).wf = true) (_ : (Lit.int .i64 b).wf = true) (_ : (Lit.int .i64 d).wf = true) :
    Calls Try.prog 4 #[rv x y a b, .int .i64 d] w fun e w' => e = .returned (.bool true) ∧ Below w.heap.size w w' := walk x y a b d w
end Go.Proofs.Ytlcaepjgjdhmoaa.RectOutW

