/- RectWhole: both parts and the border are the whole, cell by cell, and none is in two of them: for every small rectangle, every direction, number and place, without a condition. -/
import Derived.Test.YtlcaepjgjdhmoaaKit2
import Derived.Test.YtlcaepjgjdhmoaaPRectWholex3
namespace Go.Proofs.Ytlcaepjgjdhmoaa.RectWholeW
open Go.RowKit Go.Proofs.YtlcaepjgjdhmoaaKit2 Go.Proofs.Ytlcaepjgjdhmoaa.PRectWhole Go.Proofs.YtlcaepjgjdhmoaaW.PrintWords Go.Proofs.YtlcaepjgjdhmoaaW.PrintLast
set_option linter.unusedVariables false
set_option linter.unusedSimpArgs false

def oneB (n : Int) : Bool := decide (0 ≤ n) && decide (n ≤ 1000)
def okB (x y a b : Int) : Bool := oneB x && (oneB y && (oneB a && oneB b))
theorem one_eq (n : Int) : rect_one.f n = some (oneB n) := by
  unfold rect_one.f oneB
  by_cases h : n ≥ 0
  · rw [if_pos h, decide_eq_true (show 0 ≤ n from h), Bool.true_and]
  · rw [if_neg h, decide_eq_false (show ¬ 0 ≤ n from h), Bool.false_and]
theorem ok_eq (x y a b : Int) : rect_Ok.f x y a b = some (okB x y a b) := by
  unfold rect_Ok.f okB
  simp only [one_eq, Option.bind_some]
  cases oneB x <;> cases oneB y <;> cases oneB a <;> cases oneB b <;> rfl
theorem ok_true {x y a b : Int} (h1 : 0 ≤ x ∧ x ≤ 1000) (h2 : 0 ≤ y ∧ y ≤ 1000) (h3 : 0 ≤ a ∧ a ≤ 1000) (h4 : 0 ≤ b ∧ b ≤ 1000) : okB x y a b = true := by
  unfold okB oneB
  simp [h1.1, h1.2, h2.1, h2.2, h3.1, h3.2, h4.1, h4.2]
/-- Is the place in the rectangle? -/
def inB (x y a b p q : Int) : Bool := decide (x ≤ p ∧ p < x + a ∧ y ≤ q ∧ q < y + b)
theorem in_eq {x y a b : Int} (p q : Int) (h1 : 0 ≤ x ∧ x ≤ 1000) (h2 : 0 ≤ y ∧ y ≤ 1000) (h3 : 0 ≤ a ∧ a ≤ 1000) (h4 : 0 ≤ b ∧ b ≤ 1000) : rect_In.f x y a b p q = some (inB x y a b p q) := by
  have e1 : wrap64 (x + a) = x + a := by unfold wrap64; omega
  have e2 : wrap64 (y + b) = y + b := by unfold wrap64; omega
  unfold rect_In.f inB
  rw [ok_eq, ok_true h1 h2 h3 h4]
  simp only [Option.bind_some, if_true, e1, e2]
  by_cases c1 : p ≥ x
  · rw [if_pos c1]
    by_cases c2 : p < x + a
    · rw [if_pos c2]
      by_cases c3 : q ≥ y
      · rw [if_pos c3]; exact congrArg some (decide_eq_decide.2 (by omega))
      · rw [if_neg c3, decide_eq_false (by omega)]
    · rw [if_neg c2, decide_eq_false (by omega)]
  · rw [if_neg c1, decide_eq_false (by omega)]
theorem area_eq {x y a b : Int} (h1 : 0 ≤ x ∧ x ≤ 1000) (h2 : 0 ≤ y ∧ y ≤ 1000) (h3 : 0 ≤ a ∧ a ≤ 1000) (h4 : 0 ≤ b ∧ b ≤ 1000) : rect_Area.f x y a b = some (a * b) := by
  have e0 : 0 ≤ a * b := Int.mul_nonneg h3.1 h4.1
  have e1 : a * b ≤ 1000 * 1000 := Int.mul_le_mul h3.2 h4.2 h4.1 (by omega)
  unfold rect_Area.f
  rw [ok_eq, ok_true h1 h2 h3 h4]
  simp only [Option.bind_some, if_true]
  rw [show wrap64 (a * b) = a * b from by unfold wrap64; omega]
theorem wrap_small (n : Int) (h0 : -100000 ≤ n) (h1 : n ≤ 100000000) : wrap64 n = n := by unfold wrap64; omega
/-- The loop over the three parts, and what stands behind it. -/
theorem loop3 (k : Nat) (p q X Y W H : Int) (s0 s1 s2 : S23) (b0 b1 b2 b : Bool) (A0 A1 A2 A : Int)
    (e0 : rect_In.f s0.f0 s0.f1 s0.f2 s0.f3 p q = some b0) (e1 : rect_In.f s1.f0 s1.f1 s1.f2 s1.f3 p q = some b1) (e2 : rect_In.f s2.f0 s2.f1 s2.f2 s2.f3 p q = some b2) (e : rect_In.f X Y W H p q = some b)
    (a0 : rect_Area.f s0.f0 s0.f1 s0.f2 s0.f3 = some A0) (a1 : rect_Area.f s1.f0 s1.f1 s1.f2 s1.f3 = some A1) (a2 : rect_Area.f s2.f0 s2.f1 s2.f2 s2.f3 = some A2) (a : rect_Area.f X Y W H = some A)
    (hA : wrap64 (wrap64 (A0 + A1) + A2) = A) (hb : (b0, b1, b2, b) = (true, false, false, true) ∨ (b0, b1, b2, b) = (false, true, false, true) ∨ (b0, b1, b2, b) = (false, false, true, true) ∨ (b0, b1, b2, b) = (false, false, false, false)) :
    polyptychlaw9_RectWhole.l0 (k + 4) p q 0 [s0, s1, s2] 3 0 X Y W H s0.f0 s0.f1 s0.f2 s0.f3 s1.f0 s1.f1 s1.f2 s1.f3 s2.f0 s2.f1 s2.f2 s2.f3 = some true := by
  have r0 : rd_T23 [s0, s1, s2] 0 = s0 := rfl
  have r1 : rd_T23 [s0, s1, s2] (wrap64 (0 + 1)) = s1 := by rw [show wrap64 (0 + 1) = 1 from wrap_small _ (by omega) (by omega)]; rfl
  have r2 : rd_T23 [s0, s1, s2] (wrap64 (wrap64 (0 + 1) + 1)) = s2 := by rw [show wrap64 (0 + 1) = 1 from wrap_small _ (by omega) (by omega), show wrap64 (1 + 1) = 2 from wrap_small _ (by omega) (by omega)]; rfl
  have w1 : wrap64 (0 + 1) = 1 := wrap_small _ (by omega) (by omega)
  have w2 : wrap64 (1 + 1) = 2 := wrap_small _ (by omega) (by omega)
  have w3 : wrap64 (2 + 1) = 3 := wrap_small _ (by omega) (by omega)
  have v1 : wrap64 1 = 1 := wrap_small _ (by omega) (by omega)
  have v2 : wrap64 2 = 2 := wrap_small _ (by omega) (by omega)
  have v3 : wrap64 3 = 3 := wrap_small _ (by omega) (by omega)
  have l3 : (([s0, s1, s2] : List S23).length : Int) = 3 := rfl
  rcases hb with h | h | h | h <;> (simp only [Prod.mk.injEq] at h; obtain ⟨rfl, rfl, rfl, rfl⟩ := h)
  all_goals
    simp only [polyptychlaw9_RectWhole.l0, r0, r1, r2, e0, e1, e2, e, a0, a1, a2, a, hA, Option.bind_some, l3]
    simp [w1, w2, w3, v1, v2, v3, polyptychlaw9_awake.f]
theorem j0_no (k : Nat) (p q F n X Y W H : Int) (hn : -10 ≤ n ∧ n ≤ 100) (h : ¬ (1 ≤ F ∧ F ≤ n - 2)) : polyptychlaw9_RectWhole.j0 (k + 2) F p q false n X Y W H 0 0 0 0 0 0 0 0 0 0 0 0 = some true := by
  have e : wrap64 (n - 2) = n - 2 := wrap_small _ (by omega) (by omega)
  rw [polyptychlaw9_RectWhole.j0]
  by_cases c : F ≥ 1
  · rw [if_pos c, e, decide_eq_false (by omega), polyptychlaw9_RectWhole.j1]; simp [polyptychlaw9_awake.f]
  · rw [if_neg c, polyptychlaw9_RectWhole.j1]; simp [polyptychlaw9_awake.f]
theorem j0_yes (k : Nat) (p q F n X Y W H x0 y0 a0 b0 x1 y1 a1 b1 x2 y2 a2 b2 : Int) (hn : -10 ≤ n ∧ n ≤ 100) (h1 : 1 ≤ F) (h2 : F ≤ n - 2)
    (hl : polyptychlaw9_RectWhole.l0 (k + 4) p q 0 [(⟨x0, y0, a0, b0⟩ : S23), ⟨x1, y1, a1, b1⟩, ⟨x2, y2, a2, b2⟩] 3 0 X Y W H x0 y0 a0 b0 x1 y1 a1 b1 x2 y2 a2 b2 = some true) :
    polyptychlaw9_RectWhole.j0 (k + 6) F p q true n X Y W H x0 y0 a0 b0 x1 y1 a1 b1 x2 y2 a2 b2 = some true := by
  have e : wrap64 (n - 2) = n - 2 := wrap_small _ (by omega) (by omega)
  rw [polyptychlaw9_RectWhole.j0, if_pos h1, e, decide_eq_true h2, polyptychlaw9_RectWhole.j1, if_neg (by decide), if_pos rfl]
  simp only [Option.bind_some]
  exact hl
theorem inB_true {x y a b p q : Int} (h : x ≤ p ∧ p < x + a ∧ y ≤ q ∧ q < y + b) : inB x y a b p q = true := decide_eq_true h
theorem inB_false {x y a b p q : Int} (h : ¬ (x ≤ p ∧ p < x + a ∧ y ≤ q ∧ q < y + b)) : inB x y a b p q = false := decide_eq_false h
theorem whole_right (k : Nat) (p q F X Y W H : Int) (hX : 0 ≤ X ∧ X ≤ 15) (hY : 0 ≤ Y ∧ Y ≤ 15) (hW : 0 ≤ W ∧ W ≤ 31) (hH : 0 ≤ H ∧ H ≤ 31) (h1 : 1 ≤ F) (h2 : F ≤ W - 2) :
    polyptychlaw9_RectWhole.j0 (k + 6) F p q true W X Y W H X Y F H (X + F) Y 1 H (X + F + 1) Y (W - F - 1) H = some true := by
  refine j0_yes k p q F W X Y W H _ _ _ _ _ _ _ _ _ _ _ _ (by omega) h1 h2 ?_
  refine loop3 k p q X Y W H ⟨X, Y, F, H⟩ ⟨X + F, Y, 1, H⟩ ⟨X + F + 1, Y, W - F - 1, H⟩ _ _ _ _ _ _ _ _ (in_eq p q (by first | omega | (dsimp only; omega)) (by first | omega | (dsimp only; omega)) (by first | omega | (dsimp only; omega)) (by first | omega | (dsimp only; omega))) (in_eq p q (by first | omega | (dsimp only; omega)) (by first | omega | (dsimp only; omega)) (by first | omega | (dsimp only; omega)) (by first | omega | (dsimp only; omega))) (in_eq p q (by first | omega | (dsimp only; omega)) (by first | omega | (dsimp only; omega)) (by first | omega | (dsimp only; omega)) (by first | omega | (dsimp only; omega))) (in_eq p q (by first | omega | (dsimp only; omega)) (by first | omega | (dsimp only; omega)) (by first | omega | (dsimp only; omega)) (by first | omega | (dsimp only; omega))) (area_eq (by first | omega | (dsimp only; omega)) (by first | omega | (dsimp only; omega)) (by first | omega | (dsimp only; omega)) (by first | omega | (dsimp only; omega))) (area_eq (by first | omega | (dsimp only; omega)) (by first | omega | (dsimp only; omega)) (by first | omega | (dsimp only; omega)) (by first | omega | (dsimp only; omega))) (area_eq (by first | omega | (dsimp only; omega)) (by first | omega | (dsimp only; omega)) (by first | omega | (dsimp only; omega)) (by first | omega | (dsimp only; omega))) (area_eq (by first | omega | (dsimp only; omega)) (by first | omega | (dsimp only; omega)) (by first | omega | (dsimp only; omega)) (by first | omega | (dsimp only; omega))) ?_ ?_
  · dsimp only
    have e : (W - F - 1) * H = W * H - F * H - 1 * H := by rw [Int.sub_mul, Int.sub_mul]
    have m1 : 0 ≤ F * H := Int.mul_nonneg (by omega) (by omega)
    have m2 : F * H ≤ 31 * 31 := Int.mul_le_mul (by omega) (by omega) (by omega) (by omega)
    have m3 : 0 ≤ W * H := Int.mul_nonneg (by omega) (by omega)
    have m4 : W * H ≤ 31 * 31 := Int.mul_le_mul (by omega) (by omega) (by omega) (by omega)
    rw [e, wrap_small (F * H + 1 * H) (by omega) (by omega), wrap_small _ (by omega) (by omega)]
    omega
  · dsimp only
    by_cases c : X ≤ p ∧ p < X + W ∧ Y ≤ q ∧ q < Y + H
    · rw [inB_true (x := X) (a := W) c]
      by_cases c1 : p < X + F
      · left; rw [inB_true (by omega), inB_false (by omega), inB_false (by omega)]
      · by_cases c2 : p = X + F
        · right; left; rw [inB_false (by omega), inB_true (by omega), inB_false (by omega)]
        · right; right; left; rw [inB_false (by omega), inB_false (by omega), inB_true (by omega)]
    · right; right; right
      rw [inB_false (x := X) (a := W) c, inB_false (by omega), inB_false (by omega), inB_false (by omega)]
theorem whole_down (k : Nat) (p q F X Y W H : Int) (hX : 0 ≤ X ∧ X ≤ 15) (hY : 0 ≤ Y ∧ Y ≤ 15) (hW : 0 ≤ W ∧ W ≤ 31) (hH : 0 ≤ H ∧ H ≤ 31) (h1 : 1 ≤ F) (h2 : F ≤ H - 2) :
    polyptychlaw9_RectWhole.j0 (k + 6) F p q true H X Y W H X Y W F X (Y + F) W 1 X (Y + F + 1) W (H - F - 1) = some true := by
  refine j0_yes k p q F H X Y W H _ _ _ _ _ _ _ _ _ _ _ _ (by omega) h1 h2 ?_
  refine loop3 k p q X Y W H ⟨X, Y, W, F⟩ ⟨X, Y + F, W, 1⟩ ⟨X, Y + F + 1, W, H - F - 1⟩ _ _ _ _ _ _ _ _ (in_eq p q (by first | omega | (dsimp only; omega)) (by first | omega | (dsimp only; omega)) (by first | omega | (dsimp only; omega)) (by first | omega | (dsimp only; omega))) (in_eq p q (by first | omega | (dsimp only; omega)) (by first | omega | (dsimp only; omega)) (by first | omega | (dsimp only; omega)) (by first | omega | (dsimp only; omega))) (in_eq p q (by first | omega | (dsimp only; omega)) (by first | omega | (dsimp only; omega)) (by first | omega | (dsimp only; omega)) (by first | omega | (dsimp only; omega))) (in_eq p q (by first | omega | (dsimp only; omega)) (by first | omega | (dsimp only; omega)) (by first | omega | (dsimp only; omega)) (by first | omega | (dsimp only; omega))) (area_eq (by first | omega | (dsimp only; omega)) (by first | omega | (dsimp only; omega)) (by first | omega | (dsimp only; omega)) (by first | omega | (dsimp only; omega))) (area_eq (by first | omega | (dsimp only; omega)) (by first | omega | (dsimp only; omega)) (by first | omega | (dsimp only; omega)) (by first | omega | (dsimp only; omega))) (area_eq (by first | omega | (dsimp only; omega)) (by first | omega | (dsimp only; omega)) (by first | omega | (dsimp only; omega)) (by first | omega | (dsimp only; omega))) (area_eq (by first | omega | (dsimp only; omega)) (by first | omega | (dsimp only; omega)) (by first | omega | (dsimp only; omega)) (by first | omega | (dsimp only; omega))) ?_ ?_
  · dsimp only
    have e : W * (H - F - 1) = W * H - W * F - W * 1 := by rw [Int.mul_sub, Int.mul_sub]
    have m1 : 0 ≤ W * F := Int.mul_nonneg (by omega) (by omega)
    have m2 : W * F ≤ 31 * 31 := Int.mul_le_mul (by omega) (by omega) (by omega) (by omega)
    have m3 : 0 ≤ W * H := Int.mul_nonneg (by omega) (by omega)
    have m4 : W * H ≤ 31 * 31 := Int.mul_le_mul (by omega) (by omega) (by omega) (by omega)
    rw [e, wrap_small (W * F + W * 1) (by omega) (by omega), wrap_small _ (by omega) (by omega)]
    omega
  · dsimp only
    by_cases c : X ≤ p ∧ p < X + W ∧ Y ≤ q ∧ q < Y + H
    · rw [inB_true (x := X) (a := W) (b := H) c]
      by_cases c1 : q < Y + F
      · left; rw [inB_true (by omega), inB_false (by omega), inB_false (by omega)]
      · by_cases c2 : q = Y + F
        · right; left; rw [inB_false (by omega), inB_true (by omega), inB_false (by omega)]
        · right; right; left; rw [inB_false (by omega), inB_false (by omega), inB_true (by omega)]
    · right; right; right
      rw [inB_false (x := X) (a := W) (b := H) c, inB_false (by omega), inB_false (by omega), inB_false (by omega)]
theorem pure_true (a00 a01 a02 a03 a1 a2 a3 a4 : Int) : polyptychlaw9_RectWhole.f 20 a00 a01 a02 a03 a1 a2 a3 a4 = some true := by
  have hX := and_range 4 (by omega) a00
  have hY := and_range 4 (by omega) a01
  have hW := and_range 5 (by omega) a02
  have hH := and_range 5 (by omega) a03
  have hD := and_range 1 (by omega) a1
  have hF := and_range 5 (by omega) a2
  have hP := and_range 6 (by omega) a3
  have hQ := and_range 6 (by omega) a4
  unfold polyptychlaw9_RectWhole.f
  change 0 ≤ Go.bits .and .i64 a00 15 ∧ Go.bits .and .i64 a00 15 ≤ 15 at hX
  change 0 ≤ Go.bits .and .i64 a01 15 ∧ Go.bits .and .i64 a01 15 ≤ 15 at hY
  change 0 ≤ Go.bits .and .i64 a02 31 ∧ Go.bits .and .i64 a02 31 ≤ 31 at hW
  change 0 ≤ Go.bits .and .i64 a03 31 ∧ Go.bits .and .i64 a03 31 ≤ 31 at hH
  change 0 ≤ Go.bits .and .i64 a1 1 ∧ Go.bits .and .i64 a1 1 ≤ 1 at hD
  change 0 ≤ Go.bits .and .i64 a2 31 ∧ Go.bits .and .i64 a2 31 ≤ 31 at hF
  change 0 ≤ Go.bits .and .i64 a3 63 ∧ Go.bits .and .i64 a3 63 ≤ 63 at hP
  change 0 ≤ Go.bits .and .i64 a4 63 ∧ Go.bits .and .i64 a4 63 ≤ 63 at hQ
  generalize Go.bits .and .i64 a00 15 = X at *
  generalize Go.bits .and .i64 a01 15 = Y at *
  generalize Go.bits .and .i64 a02 31 = W at *
  generalize Go.bits .and .i64 a03 31 = H at *
  generalize Go.bits .and .i64 a1 1 = D at *
  generalize Go.bits .and .i64 a2 31 = F at *
  generalize Go.bits .and .i64 a3 63 = P at *
  generalize Go.bits .and .i64 a4 63 = Q at *
  rw [wrap_small (D + 1) (by omega) (by omega)]
  generalize wrap64 (P - 4) = p
  generalize wrap64 (Q - 4) = q
  unfold rect_Cut.f
  rw [ok_eq, ok_true (by omega) (by omega) (by omega) (by omega)]
  simp only [Option.bind_some, if_true]
  by_cases c0 : F < 1
  · rw [if_pos c0]
    simp only [Option.bind_some]
    by_cases c1 : D + 1 = 2
    · rw [if_pos c1]; exact j0_no 18 p q F H X Y W H (by omega) (by omega)
    · rw [if_neg c1]; exact j0_no 18 p q F W X Y W H (by omega) (by omega)
  · rw [if_neg c0]
    by_cases c1 : D + 1 = 1
    · rw [if_pos c1]
      by_cases c2 : F < W - 1
      · rw [if_pos c2]; simp only [Option.bind_some]; rw [if_neg (by omega)]
        exact whole_right 14 p q F X Y W H hX hY hW hH (by omega) (by omega)
      · rw [if_neg c2]; simp only [Option.bind_some]; rw [if_neg (by omega)]
        exact j0_no 18 p q F W X Y W H (by omega) (by omega)
    · rw [if_neg c1, if_pos (show D + 1 = 2 by omega)]
      by_cases c2 : F < H - 1
      · rw [if_pos c2]; simp only [Option.bind_some]; rw [if_pos (show D + 1 = 2 by omega)]
        exact whole_down 14 p q F X Y W H hX hY hW hH (by omega) (by omega)
      · rw [if_neg c2]; simp only [Option.bind_some]; rw [if_pos (show D + 1 = 2 by omega)]
        exact j0_no 18 p q F H X Y W H (by omega) (by omega)
theorem walkR (x y a b d f p q : Int) (w : World) (_ : (Lit.int .i64 x).wf = true) (_ : (Lit.int .i64 y).wf = true) (_ : (Lit.int .i64 a).wf = true) (_ : (Lit.int .i64 b).wf = true) (_ : (Lit.int .i64 d).wf = true) (_ : (Lit.int .i64 f).wf = true) (_ : (Lit.int .i64 p).wf = true) (_ : (Lit.int .i64 q).wf = true) :
    Calls Try.prog 6 #[.agg #[.int .i64 x, .int .i64 y, .int .i64 a, .int .i64 b], .int .i64 d, .int .i64 f, .int .i64 p, .int .i64 q] w fun e w' => e = .returned (.bool true) ∧ Below w.heap.size w w' :=
  polyptychlaw9_RectWhole.calls 20 x y a b d f p q true w (pure_true x y a b d f p q)
end Go.Proofs.Ytlcaepjgjdhmoaa.RectWholeW

