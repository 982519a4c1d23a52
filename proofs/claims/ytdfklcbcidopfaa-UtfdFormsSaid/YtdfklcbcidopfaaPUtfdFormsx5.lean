-- Written by a program of this session over the print of the kit (functions marked FOREIGN are proved by this session).
import Derived.Test.YtdfklcbcidopfaaPUtfdFormsx0
import Derived.Test.YtdfklcbcidopfaaPUtfdFormsx3
import Derived.Test.YtdfklcbcidopfaaPUtfdFormsx4
namespace Go.Proofs.Ytdfklcbcidopfaa.PUtfdForms
open Go.RowKit Go.Proofs.YtdfklcbcidopfaaW.PrintWords Go.Proofs.YtdfklcbcidopfaaW.PrintLast Go.Proofs.YtdfklcbcidopfaaW.PrintMore
attribute [local go_sem] max2_int min2_int max_two min_two max_three min_three max_four min_four   -- for this text's walks alone
set_option linter.unusedVariables false
set_option linter.unusedSimpArgs false

/-! ### polyptychlaw1_UtfdForms: function 3 -/
def polyptychlaw1_UtfdForms.l0 : Nat → List Int → Int → ByteArray → ByteArray → Int → Int → Int → Option (Bool)
  | 0, _, _, _, _, _, _, _ => none
  | k + 1, x6, x7, x203000, x203001, x204000, x204001, x204002 => if x7 < (x203000.size : Int) then (if 0 ≤ x7 then ((utfd_Step.f k x204000 x204001 x204002 (bt x203000 x7)).bind fun bt204 => (if x6.length + bt204.2.2.2.length < 35184372088832 then (polyptychlaw1_UtfdForms.l0 k (x6 ++ bt204.2.2.2) (wrap64 (x7 + 1)) x203000 x203001 bt204.1 bt204.2.1 bt204.2.2.1) else (none))) else (none)) else ((utfd_End.f x204000 x204001 x204002).bind fun t214 => (if x6.length + t214.length < 35184372088832 then (if (runesBytes (x6 ++ t214)).toList = x203001.toList then ((polyptychlaw1_awake.f k).bind fun t220 => (some t220)) else (some false)) else (none)))
def polyptychlaw1_UtfdForms.f (k : Nat) (a0 : Int) : Option (Bool) := (some (([(⟨(⟨#[97]⟩ : ByteArray), (⟨#[97]⟩ : ByteArray)⟩ : S22), (⟨(⟨#[0]⟩ : ByteArray), (⟨#[0]⟩ : ByteArray)⟩ : S22), (⟨(⟨#[195, 169]⟩ : ByteArray), (⟨#[195, 169]⟩ : ByteArray)⟩ : S22), (⟨(⟨#[226, 130, 172]⟩ : ByteArray), (⟨#[226, 130, 172]⟩ : ByteArray)⟩ : S22), (⟨(⟨#[240, 159, 152, 128]⟩ : ByteArray), (⟨#[240, 159, 152, 128]⟩ : ByteArray)⟩ : S22), (⟨(⟨#[192, 128]⟩ : ByteArray), (⟨#[239, 191, 189]⟩ : ByteArray)⟩ : S22), (⟨(⟨#[193, 191]⟩ : ByteArray), (⟨#[239, 191, 189]⟩ : ByteArray)⟩ : S22), (⟨(⟨#[224, 128, 128]⟩ : ByteArray), (⟨#[239, 191, 189]⟩ : ByteArray)⟩ : S22), (⟨(⟨#[224, 159, 191]⟩ : ByteArray), (⟨#[239, 191, 189]⟩ : ByteArray)⟩ : S22), (⟨(⟨#[237, 160, 128]⟩ : ByteArray), (⟨#[239, 191, 189]⟩ : ByteArray)⟩ : S22), (⟨(⟨#[240, 128, 128, 128]⟩ : ByteArray), (⟨#[239, 191, 189]⟩ : ByteArray)⟩ : S22), (⟨(⟨#[244, 143, 191, 191]⟩ : ByteArray), (⟨#[244, 143, 191, 191]⟩ : ByteArray)⟩ : S22), (⟨(⟨#[244, 144, 128, 128]⟩ : ByteArray), (⟨#[239, 191, 189]⟩ : ByteArray)⟩ : S22), (⟨(⟨#[247, 191, 191, 191]⟩ : ByteArray), (⟨#[239, 191, 189]⟩ : ByteArray)⟩ : S22), (⟨(⟨#[248]⟩ : ByteArray), (⟨#[239, 191, 189]⟩ : ByteArray)⟩ : S22), (⟨(⟨#[255, 254]⟩ : ByteArray), (⟨#[239, 191, 189, 239, 191, 189]⟩ : ByteArray)⟩ : S22), (⟨(⟨#[128]⟩ : ByteArray), (⟨#[239, 191, 189]⟩ : ByteArray)⟩ : S22), (⟨(⟨#[195]⟩ : ByteArray), (⟨#[239, 191, 189]⟩ : ByteArray)⟩ : S22), (⟨(⟨#[195, 97]⟩ : ByteArray), (⟨#[239, 191, 189, 97]⟩ : ByteArray)⟩ : S22), (⟨(⟨#[226, 130]⟩ : ByteArray), (⟨#[239, 191, 189]⟩ : ByteArray)⟩ : S22), (⟨(⟨#[226, 130, 195, 169]⟩ : ByteArray), (⟨#[239, 191, 189, 195, 169]⟩ : ByteArray)⟩ : S22), (⟨(⟨#[226, 195, 169, 97]⟩ : ByteArray), (⟨#[239, 191, 189, 195, 169, 97]⟩ : ByteArray)⟩ : S22), (⟨(⟨#[239, 191, 189]⟩ : ByteArray), (⟨#[239, 191, 189]⟩ : ByteArray)⟩ : S22)] : List (S22)) : List (S22))).bind fun y198 => (if (y198.length : Int) = 0 then (none) else (if 0 ≤ (Int.tmod (Go.bits .and .i64 a0 255) (y198.length : Int)) then (if (Int.tmod (Go.bits .and .i64 a0 255) (y198.length : Int)) < (y198.length : Int) then (polyptychlaw1_UtfdForms.l0 k ([] : List Int) 0 ((rd_T22 y198 (Int.tmod (Go.bits .and .i64 a0 255) (y198.length : Int))).f0) ((rd_T22 y198 (Int.tmod (Go.bits .and .i64 a0 255) (y198.length : Int))).f1) 0 0 0) else (none)) else (none)))
theorem polyptychlaw1_UtfdForms.mono_l : ∀ k, (∀ y0 y1 y2 y3 y4 y5 y6, LeO (polyptychlaw1_UtfdForms.l0 k y0 y1 y2 y3 y4 y5 y6) (polyptychlaw1_UtfdForms.l0 (k + 1) y0 y1 y2 y3 y4 y5 y6))
  | 0 => fun _ _ _ _ _ _ _ r h => by simp [polyptychlaw1_UtfdForms.l0] at h
  | k + 1 => by
    have ih0 := polyptychlaw1_UtfdForms.mono_l k
    · intro y0 y1 y2 y3 y4 y5 y6
      unfold polyptychlaw1_UtfdForms.l0
      repeat' first
      | (with_reducible exact ih0 _ _ _ _ _ _ _)
      | (with_reducible exact polyptychlaw1_awake.mono _)
      | (with_reducible exact utfd_Step.mono _ _ _ _ _)
      | (with_reducible exact LeO.refl _)
      | (with_reducible exact LeO.none _)
      | (with_reducible refine LeO.ite ?_ ?_)
      | (with_reducible refine LeO.bind ?_ (fun _ => ?_))
      | exact ih0 _ _ _ _ _ _ _
      | exact polyptychlaw1_awake.mono _
      | exact utfd_Step.mono _ _ _ _ _
      | exact LeO.none _
      | refine LeO.ite ?_ ?_
      | refine LeO.bind ?_ (fun _ => ?_)
theorem polyptychlaw1_UtfdForms.mono : ∀ a0 k, LeO (polyptychlaw1_UtfdForms.f k a0) (polyptychlaw1_UtfdForms.f (k + 1) a0) := by
  intro a0 k
  have ih0 := polyptychlaw1_UtfdForms.mono_l k
  unfold polyptychlaw1_UtfdForms.f
  repeat' first
      | (with_reducible exact ih0 _ _ _ _ _ _ _)
      | (with_reducible exact polyptychlaw1_awake.mono _)
      | (with_reducible exact utfd_Step.mono _ _ _ _ _)
      | (with_reducible exact LeO.refl _)
      | (with_reducible exact LeO.none _)
      | (with_reducible refine LeO.ite ?_ ?_)
      | (with_reducible refine LeO.bind ?_ (fun _ => ?_))
      | exact ih0 _ _ _ _ _ _ _
      | exact polyptychlaw1_awake.mono _
      | exact utfd_Step.mono _ _ _ _ _
      | exact LeO.none _
      | refine LeO.ite ?_ ?_
      | refine LeO.bind ?_ (fun _ => ?_)
def polyptychlaw1_UtfdForms.T8 : Bool × List (List Nat × List Nat) := (true, [([], []), ([], []), ([1], [1]), ([], []), ([2, 3], [2, 3]), ([0, 4], [0, 4]), ([5], [5]), ([6], [6]), ([6], [6]), ([], []), ([9, 7, 5, 0, 1, 2, 3, 4, 5, 6, 7, 9], [7, 9]), ([8, 10, 0, 1, 2, 3, 4, 5, 6, 7, 8, 9, 10], [8])])
def polyptychlaw1_UtfdForms.B8 : List Nat := [0, 0, 2, 0, 14, 31, 63, 127, 127, 0, 767, 2047]
theorem polyptychlaw1_UtfdForms.tab8 : rtab .any (opsOf Try.f3 8) = polyptychlaw1_UtfdForms.T8 := by kernel_rfl
theorem polyptychlaw1_UtfdForms.bits8 : waitsOk polyptychlaw1_UtfdForms.T8.2 polyptychlaw1_UtfdForms.B8 = true := by kernel_rfl
def polyptychlaw1_UtfdForms.T10 : Bool × List (List Nat × List Nat) := (true, [([], []), ([], []), ([1], [1]), ([0, 2, 2], [0, 2]), ([3], [3]), ([], []), ([5], [5]), ([4, 6], [4, 6]), ([7, 3], [7]), ([8, 8], [8]), ([8, 9], [8, 9]), ([10, 9, 0, 1, 2, 3, 4, 5, 6, 7, 8, 9, 10], [10])])
def polyptychlaw1_UtfdForms.B10 : List Nat := [0, 0, 2, 7, 15, 0, 32, 127, 255, 511, 1023, 2047]
theorem polyptychlaw1_UtfdForms.tab10 : rtab .any (opsOf Try.f3 10) = polyptychlaw1_UtfdForms.T10 := by kernel_rfl
theorem polyptychlaw1_UtfdForms.bits10 : waitsOk polyptychlaw1_UtfdForms.T10.2 polyptychlaw1_UtfdForms.B10 = true := by kernel_rfl
set_option maxHeartbeats 8000000 in
set_option maxRecDepth 100000 in
theorem polyptychlaw1_UtfdForms.calls (k : Nat) (a0 : Int) (r : Bool) (w : World) (h : polyptychlaw1_UtfdForms.f k a0 = some r) (hT_ : Aside0 (r = true)) :
    Calls Try.prog 3 #[.int .i64 a0] w fun e w' => e = .returned (.bool r) ∧ Below w.heap.size w w' := by
  have hu22 := Try.underlying22
  have hu25 := Try.underlying25
  have HB := Aside0.mk (Below.refl w.heap.size w)
  have H : ((some (([(⟨(⟨#[97]⟩ : ByteArray), (⟨#[97]⟩ : ByteArray)⟩ : S22), (⟨(⟨#[0]⟩ : ByteArray), (⟨#[0]⟩ : ByteArray)⟩ : S22), (⟨(⟨#[195, 169]⟩ : ByteArray), (⟨#[195, 169]⟩ : ByteArray)⟩ : S22), (⟨(⟨#[226, 130, 172]⟩ : ByteArray), (⟨#[226, 130, 172]⟩ : ByteArray)⟩ : S22), (⟨(⟨#[240, 159, 152, 128]⟩ : ByteArray), (⟨#[240, 159, 152, 128]⟩ : ByteArray)⟩ : S22), (⟨(⟨#[192, 128]⟩ : ByteArray), (⟨#[239, 191, 189]⟩ : ByteArray)⟩ : S22), (⟨(⟨#[193, 191]⟩ : ByteArray), (⟨#[239, 191, 189]⟩ : ByteArray)⟩ : S22), (⟨(⟨#[224, 128, 128]⟩ : ByteArray), (⟨#[239, 191, 189]⟩ : ByteArray)⟩ : S22), (⟨(⟨#[224, 159, 191]⟩ : ByteArray), (⟨#[239, 191, 189]⟩ : ByteArray)⟩ : S22), (⟨(⟨#[237, 160, 128]⟩ : ByteArray), (⟨#[239, 191, 189]⟩ : ByteArray)⟩ : S22), (⟨(⟨#[240, 128, 128, 128]⟩ : ByteArray), (⟨#[239, 191, 189]⟩ : ByteArray)⟩ : S22), (⟨(⟨#[244, 143, 191, 191]⟩ : ByteArray), (⟨#[244, 143, 191, 191]⟩ : ByteArray)⟩ : S22), (⟨(⟨#[244, 144, 128, 128]⟩ : ByteArray), (⟨#[239, 191, 189]⟩ : ByteArray)⟩ : S22), (⟨(⟨#[247, 191, 191, 191]⟩ : ByteArray), (⟨#[239, 191, 189]⟩ : ByteArray)⟩ : S22), (⟨(⟨#[248]⟩ : ByteArray), (⟨#[239, 191, 189]⟩ : ByteArray)⟩ : S22), (⟨(⟨#[255, 254]⟩ : ByteArray), (⟨#[239, 191, 189, 239, 191, 189]⟩ : ByteArray)⟩ : S22), (⟨(⟨#[128]⟩ : ByteArray), (⟨#[239, 191, 189]⟩ : ByteArray)⟩ : S22), (⟨(⟨#[195]⟩ : ByteArray), (⟨#[239, 191, 189]⟩ : ByteArray)⟩ : S22), (⟨(⟨#[195, 97]⟩ : ByteArray), (⟨#[239, 191, 189, 97]⟩ : ByteArray)⟩ : S22), (⟨(⟨#[226, 130]⟩ : ByteArray), (⟨#[239, 191, 189]⟩ : ByteArray)⟩ : S22), (⟨(⟨#[226, 130, 195, 169]⟩ : ByteArray), (⟨#[239, 191, 189, 195, 169]⟩ : ByteArray)⟩ : S22), (⟨(⟨#[226, 195, 169, 97]⟩ : ByteArray), (⟨#[239, 191, 189, 195, 169, 97]⟩ : ByteArray)⟩ : S22), (⟨(⟨#[239, 191, 189]⟩ : ByteArray), (⟨#[239, 191, 189]⟩ : ByteArray)⟩ : S22)] : List (S22)) : List (S22))).bind fun y198 => (if (y198.length : Int) = 0 then (none) else (if 0 ≤ (Int.tmod (Go.bits .and .i64 a0 255) (y198.length : Int)) then (if (Int.tmod (Go.bits .and .i64 a0 255) (y198.length : Int)) < (y198.length : Int) then (polyptychlaw1_UtfdForms.l0 k ([] : List Int) 0 ((rd_T22 y198 (Int.tmod (Go.bits .and .i64 a0 255) (y198.length : Int))).f0) ((rd_T22 y198 (Int.tmod (Go.bits .and .i64 a0 255) (y198.length : Int))).f1) 0 0 0) else (none)) else (none)))) = some r := h
  clear h
  obtain ⟨y198, hy198⟩ : ∃ y_ : List (S22), y_ = (([(⟨(⟨#[97]⟩ : ByteArray), (⟨#[97]⟩ : ByteArray)⟩ : S22), (⟨(⟨#[0]⟩ : ByteArray), (⟨#[0]⟩ : ByteArray)⟩ : S22), (⟨(⟨#[195, 169]⟩ : ByteArray), (⟨#[195, 169]⟩ : ByteArray)⟩ : S22), (⟨(⟨#[226, 130, 172]⟩ : ByteArray), (⟨#[226, 130, 172]⟩ : ByteArray)⟩ : S22), (⟨(⟨#[240, 159, 152, 128]⟩ : ByteArray), (⟨#[240, 159, 152, 128]⟩ : ByteArray)⟩ : S22), (⟨(⟨#[192, 128]⟩ : ByteArray), (⟨#[239, 191, 189]⟩ : ByteArray)⟩ : S22), (⟨(⟨#[193, 191]⟩ : ByteArray), (⟨#[239, 191, 189]⟩ : ByteArray)⟩ : S22), (⟨(⟨#[224, 128, 128]⟩ : ByteArray), (⟨#[239, 191, 189]⟩ : ByteArray)⟩ : S22), (⟨(⟨#[224, 159, 191]⟩ : ByteArray), (⟨#[239, 191, 189]⟩ : ByteArray)⟩ : S22), (⟨(⟨#[237, 160, 128]⟩ : ByteArray), (⟨#[239, 191, 189]⟩ : ByteArray)⟩ : S22), (⟨(⟨#[240, 128, 128, 128]⟩ : ByteArray), (⟨#[239, 191, 189]⟩ : ByteArray)⟩ : S22), (⟨(⟨#[244, 143, 191, 191]⟩ : ByteArray), (⟨#[244, 143, 191, 191]⟩ : ByteArray)⟩ : S22), (⟨(⟨#[244, 144, 128, 128]⟩ : ByteArray), (⟨#[239, 191, 189]⟩ : ByteArray)⟩ : S22), (⟨(⟨#[247, 191, 191, 191]⟩ : ByteArray), (⟨#[239, 191, 189]⟩ : ByteArray)⟩ : S22), (⟨(⟨#[248]⟩ : ByteArray), (⟨#[239, 191, 189]⟩ : ByteArray)⟩ : S22), (⟨(⟨#[255, 254]⟩ : ByteArray), (⟨#[239, 191, 189, 239, 191, 189]⟩ : ByteArray)⟩ : S22), (⟨(⟨#[128]⟩ : ByteArray), (⟨#[239, 191, 189]⟩ : ByteArray)⟩ : S22), (⟨(⟨#[195]⟩ : ByteArray), (⟨#[239, 191, 189]⟩ : ByteArray)⟩ : S22), (⟨(⟨#[195, 97]⟩ : ByteArray), (⟨#[239, 191, 189, 97]⟩ : ByteArray)⟩ : S22), (⟨(⟨#[226, 130]⟩ : ByteArray), (⟨#[239, 191, 189]⟩ : ByteArray)⟩ : S22), (⟨(⟨#[226, 130, 195, 169]⟩ : ByteArray), (⟨#[239, 191, 189, 195, 169]⟩ : ByteArray)⟩ : S22), (⟨(⟨#[226, 195, 169, 97]⟩ : ByteArray), (⟨#[239, 191, 189, 195, 169, 97]⟩ : ByteArray)⟩ : S22), (⟨(⟨#[239, 191, 189]⟩ : ByteArray), (⟨#[239, 191, 189]⟩ : ByteArray)⟩ : S22)] : List (S22))) := ⟨_, rfl⟩
  replace H : (if (y198.length : Int) = 0 then (none) else (if 0 ≤ (Int.tmod (Go.bits .and .i64 a0 255) (y198.length : Int)) then (if (Int.tmod (Go.bits .and .i64 a0 255) (y198.length : Int)) < (y198.length : Int) then (polyptychlaw1_UtfdForms.l0 k ([] : List Int) 0 ((rd_T22 y198 (Int.tmod (Go.bits .and .i64 a0 255) (y198.length : Int))).f0) ((rd_T22 y198 (Int.tmod (Go.bits .and .i64 a0 255) (y198.length : Int))).f1) 0 0 0) else (none)) else (none))) = some r := by first | (rw [hy198]; with_reducible exact H) | (have H2_ := (Option.bind_some _ _).symm.trans H; rw [hy198]; with_reducible exact H2_) | (have H2_ := (Option.bind_some _ _).symm.trans H; with_reducible exact H2_) | with_reducible exact H | (rw [hy198]; exact H) | exact H
  have Ny198 := Aside0.mk hy198
  clear hy198
  by_cases c2 : (y198.length : Int) = 0
  · rw [if_pos c2] at H
    exact absurd H (by simp)
  · rw [if_neg c2] at H
    have c2b0 : ((y198.length : Int) == 0) = false := beq_eq_false_iff_ne.mpr c2
    have c2b1 : ((y198.length : Int) != 0) = true := bne_iff_ne.mpr c2
    have c2b2 : ¬ (y198 = []) := fun h_ => c2 (by rw [h_]; rfl)
    obtain ⟨ji3, hji3⟩ : ∃ j_ : Int, (Int.tmod (Go.bits .and .i64 a0 255) (y198.length : Int)) = j_ := ⟨_, rfl⟩
    replace H : (if 0 ≤ (ji3) then (if (ji3) < (y198.length : Int) then (polyptychlaw1_UtfdForms.l0 k ([] : List Int) 0 ((rd_T22 y198 (ji3)).f0) ((rd_T22 y198 (ji3)).f1) 0 0 0) else (none)) else (none)) = some r := by first | (rw [hji3] at H; exact H) | (simp only [hji3] at H ⊢; exact H)
    by_cases c4 : 0 ≤ (ji3)
    · rw [if_pos c4] at H
      have c4b0 : decide (0 ≤ (ji3)) = true := decide_eq_true c4
      clear c4
      by_cases c5 : (ji3) < (y198.length : Int)
      · rw [if_pos c5] at H
        have c5b0 : decide ((ji3) < (y198.length : Int)) = true := decide_eq_true c5
        clear c5
        have H' := Aside0.mk H
        clear H
        go_enter Try.func3, Try.ntmps3
        go_wp2_with (first | ((with_reducible refine gate_dst (N := 33) rfl ?_); refine Kd.R_lit k22 _ 22 ?hg (N := 33) ?hd (xs := ([(⟨(⟨#[97]⟩ : ByteArray), (⟨#[97]⟩ : ByteArray)⟩ : S22), (⟨(⟨#[0]⟩ : ByteArray), (⟨#[0]⟩ : ByteArray)⟩ : S22), (⟨(⟨#[195, 169]⟩ : ByteArray), (⟨#[195, 169]⟩ : ByteArray)⟩ : S22), (⟨(⟨#[226, 130, 172]⟩ : ByteArray), (⟨#[226, 130, 172]⟩ : ByteArray)⟩ : S22), (⟨(⟨#[240, 159, 152, 128]⟩ : ByteArray), (⟨#[240, 159, 152, 128]⟩ : ByteArray)⟩ : S22), (⟨(⟨#[192, 128]⟩ : ByteArray), (⟨#[239, 191, 189]⟩ : ByteArray)⟩ : S22), (⟨(⟨#[193, 191]⟩ : ByteArray), (⟨#[239, 191, 189]⟩ : ByteArray)⟩ : S22), (⟨(⟨#[224, 128, 128]⟩ : ByteArray), (⟨#[239, 191, 189]⟩ : ByteArray)⟩ : S22), (⟨(⟨#[224, 159, 191]⟩ : ByteArray), (⟨#[239, 191, 189]⟩ : ByteArray)⟩ : S22), (⟨(⟨#[237, 160, 128]⟩ : ByteArray), (⟨#[239, 191, 189]⟩ : ByteArray)⟩ : S22), (⟨(⟨#[240, 128, 128, 128]⟩ : ByteArray), (⟨#[239, 191, 189]⟩ : ByteArray)⟩ : S22), (⟨(⟨#[244, 143, 191, 191]⟩ : ByteArray), (⟨#[244, 143, 191, 191]⟩ : ByteArray)⟩ : S22), (⟨(⟨#[244, 144, 128, 128]⟩ : ByteArray), (⟨#[239, 191, 189]⟩ : ByteArray)⟩ : S22), (⟨(⟨#[247, 191, 191, 191]⟩ : ByteArray), (⟨#[239, 191, 189]⟩ : ByteArray)⟩ : S22), (⟨(⟨#[248]⟩ : ByteArray), (⟨#[239, 191, 189]⟩ : ByteArray)⟩ : S22), (⟨(⟨#[255, 254]⟩ : ByteArray), (⟨#[239, 191, 189, 239, 191, 189]⟩ : ByteArray)⟩ : S22), (⟨(⟨#[128]⟩ : ByteArray), (⟨#[239, 191, 189]⟩ : ByteArray)⟩ : S22), (⟨(⟨#[195]⟩ : ByteArray), (⟨#[239, 191, 189]⟩ : ByteArray)⟩ : S22), (⟨(⟨#[195, 97]⟩ : ByteArray), (⟨#[239, 191, 189, 97]⟩ : ByteArray)⟩ : S22), (⟨(⟨#[226, 130]⟩ : ByteArray), (⟨#[239, 191, 189]⟩ : ByteArray)⟩ : S22), (⟨(⟨#[226, 130, 195, 169]⟩ : ByteArray), (⟨#[239, 191, 189, 195, 169]⟩ : ByteArray)⟩ : S22), (⟨(⟨#[226, 195, 169, 97]⟩ : ByteArray), (⟨#[239, 191, 189, 195, 169, 97]⟩ : ByteArray)⟩ : S22), (⟨(⟨#[239, 191, 189]⟩ : ByteArray), (⟨#[239, 191, 189]⟩ : ByteArray)⟩ : S22)] : List (S22))) (inner := [.string (⟨#[97]⟩ : ByteArray), .string (⟨#[97]⟩ : ByteArray), .string (⟨#[0]⟩ : ByteArray), .string (⟨#[0]⟩ : ByteArray), .string (⟨#[195, 169]⟩ : ByteArray), .string (⟨#[195, 169]⟩ : ByteArray), .string (⟨#[226, 130, 172]⟩ : ByteArray), .string (⟨#[226, 130, 172]⟩ : ByteArray), .string (⟨#[240, 159, 152, 128]⟩ : ByteArray), .string (⟨#[240, 159, 152, 128]⟩ : ByteArray), .string (⟨#[192, 128]⟩ : ByteArray), .string (⟨#[239, 191, 189]⟩ : ByteArray), .string (⟨#[193, 191]⟩ : ByteArray), .string (⟨#[239, 191, 189]⟩ : ByteArray), .string (⟨#[224, 128, 128]⟩ : ByteArray), .string (⟨#[239, 191, 189]⟩ : ByteArray), .string (⟨#[224, 159, 191]⟩ : ByteArray), .string (⟨#[239, 191, 189]⟩ : ByteArray), .string (⟨#[237, 160, 128]⟩ : ByteArray), .string (⟨#[239, 191, 189]⟩ : ByteArray), .string (⟨#[240, 128, 128, 128]⟩ : ByteArray), .string (⟨#[239, 191, 189]⟩ : ByteArray), .string (⟨#[244, 143, 191, 191]⟩ : ByteArray), .string (⟨#[244, 143, 191, 191]⟩ : ByteArray), .string (⟨#[244, 144, 128, 128]⟩ : ByteArray), .string (⟨#[239, 191, 189]⟩ : ByteArray), .string (⟨#[247, 191, 191, 191]⟩ : ByteArray), .string (⟨#[239, 191, 189]⟩ : ByteArray), .string (⟨#[248]⟩ : ByteArray), .string (⟨#[239, 191, 189]⟩ : ByteArray), .string (⟨#[255, 254]⟩ : ByteArray), .string (⟨#[239, 191, 189, 239, 191, 189]⟩ : ByteArray), .string (⟨#[128]⟩ : ByteArray), .string (⟨#[239, 191, 189]⟩ : ByteArray), .string (⟨#[195]⟩ : ByteArray), .string (⟨#[239, 191, 189]⟩ : ByteArray), .string (⟨#[195, 97]⟩ : ByteArray), .string (⟨#[239, 191, 189, 97]⟩ : ByteArray), .string (⟨#[226, 130]⟩ : ByteArray), .string (⟨#[239, 191, 189]⟩ : ByteArray), .string (⟨#[226, 130, 195, 169]⟩ : ByteArray), .string (⟨#[239, 191, 189, 195, 169]⟩ : ByteArray), .string (⟨#[226, 195, 169, 97]⟩ : ByteArray), .string (⟨#[239, 191, 189, 195, 169, 97]⟩ : ByteArray), .string (⟨#[239, 191, 189]⟩ : ByteArray), .string (⟨#[239, 191, 189]⟩ : ByteArray)]) (ok := fun _ => True) (okp := fun _ => True) ?hr ?hp (fun _ hk => hk) trivial (Below.refl _ _) (Nat.le_refl _) (by simp) ?_; (case hd => rfl); (case hg => rfl); (case hr => first | (go_simp; done) | (go_simp; rfl)); (case hp => exact (Reps.c2 (show Kd.M k22 _ _ _ (⟨(⟨#[97]⟩ : ByteArray), (⟨#[97]⟩ : ByteArray)⟩ : S22) [.string (⟨#[97]⟩ : ByteArray), .string (⟨#[97]⟩ : ByteArray)] from (k22_mkM _ _ _ (⟨(⟨#[97]⟩ : ByteArray), (⟨#[97]⟩ : ByteArray)⟩ : S22) )) (Reps.c2 (show Kd.M k22 _ _ _ (⟨(⟨#[0]⟩ : ByteArray), (⟨#[0]⟩ : ByteArray)⟩ : S22) [.string (⟨#[0]⟩ : ByteArray), .string (⟨#[0]⟩ : ByteArray)] from (k22_mkM _ _ _ (⟨(⟨#[0]⟩ : ByteArray), (⟨#[0]⟩ : ByteArray)⟩ : S22) )) (Reps.c2 (show Kd.M k22 _ _ _ (⟨(⟨#[195, 169]⟩ : ByteArray), (⟨#[195, 169]⟩ : ByteArray)⟩ : S22) [.string (⟨#[195, 169]⟩ : ByteArray), .string (⟨#[195, 169]⟩ : ByteArray)] from (k22_mkM _ _ _ (⟨(⟨#[195, 169]⟩ : ByteArray), (⟨#[195, 169]⟩ : ByteArray)⟩ : S22) )) (Reps.c2 (show Kd.M k22 _ _ _ (⟨(⟨#[226, 130, 172]⟩ : ByteArray), (⟨#[226, 130, 172]⟩ : ByteArray)⟩ : S22) [.string (⟨#[226, 130, 172]⟩ : ByteArray), .string (⟨#[226, 130, 172]⟩ : ByteArray)] from (k22_mkM _ _ _ (⟨(⟨#[226, 130, 172]⟩ : ByteArray), (⟨#[226, 130, 172]⟩ : ByteArray)⟩ : S22) )) (Reps.c2 (show Kd.M k22 _ _ _ (⟨(⟨#[240, 159, 152, 128]⟩ : ByteArray), (⟨#[240, 159, 152, 128]⟩ : ByteArray)⟩ : S22) [.string (⟨#[240, 159, 152, 128]⟩ : ByteArray), .string (⟨#[240, 159, 152, 128]⟩ : ByteArray)] from (k22_mkM _ _ _ (⟨(⟨#[240, 159, 152, 128]⟩ : ByteArray), (⟨#[240, 159, 152, 128]⟩ : ByteArray)⟩ : S22) )) (Reps.c2 (show Kd.M k22 _ _ _ (⟨(⟨#[192, 128]⟩ : ByteArray), (⟨#[239, 191, 189]⟩ : ByteArray)⟩ : S22) [.string (⟨#[192, 128]⟩ : ByteArray), .string (⟨#[239, 191, 189]⟩ : ByteArray)] from (k22_mkM _ _ _ (⟨(⟨#[192, 128]⟩ : ByteArray), (⟨#[239, 191, 189]⟩ : ByteArray)⟩ : S22) )) (Reps.c2 (show Kd.M k22 _ _ _ (⟨(⟨#[193, 191]⟩ : ByteArray), (⟨#[239, 191, 189]⟩ : ByteArray)⟩ : S22) [.string (⟨#[193, 191]⟩ : ByteArray), .string (⟨#[239, 191, 189]⟩ : ByteArray)] from (k22_mkM _ _ _ (⟨(⟨#[193, 191]⟩ : ByteArray), (⟨#[239, 191, 189]⟩ : ByteArray)⟩ : S22) )) (Reps.c2 (show Kd.M k22 _ _ _ (⟨(⟨#[224, 128, 128]⟩ : ByteArray), (⟨#[239, 191, 189]⟩ : ByteArray)⟩ : S22) [.string (⟨#[224, 128, 128]⟩ : ByteArray), .string (⟨#[239, 191, 189]⟩ : ByteArray)] from (k22_mkM _ _ _ (⟨(⟨#[224, 128, 128]⟩ : ByteArray), (⟨#[239, 191, 189]⟩ : ByteArray)⟩ : S22) )) (Reps.c2 (show Kd.M k22 _ _ _ (⟨(⟨#[224, 159, 191]⟩ : ByteArray), (⟨#[239, 191, 189]⟩ : ByteArray)⟩ : S22) [.string (⟨#[224, 159, 191]⟩ : ByteArray), .string (⟨#[239, 191, 189]⟩ : ByteArray)] from (k22_mkM _ _ _ (⟨(⟨#[224, 159, 191]⟩ : ByteArray), (⟨#[239, 191, 189]⟩ : ByteArray)⟩ : S22) )) (Reps.c2 (show Kd.M k22 _ _ _ (⟨(⟨#[237, 160, 128]⟩ : ByteArray), (⟨#[239, 191, 189]⟩ : ByteArray)⟩ : S22) [.string (⟨#[237, 160, 128]⟩ : ByteArray), .string (⟨#[239, 191, 189]⟩ : ByteArray)] from (k22_mkM _ _ _ (⟨(⟨#[237, 160, 128]⟩ : ByteArray), (⟨#[239, 191, 189]⟩ : ByteArray)⟩ : S22) )) (Reps.c2 (show Kd.M k22 _ _ _ (⟨(⟨#[240, 128, 128, 128]⟩ : ByteArray), (⟨#[239, 191, 189]⟩ : ByteArray)⟩ : S22) [.string (⟨#[240, 128, 128, 128]⟩ : ByteArray), .string (⟨#[239, 191, 189]⟩ : ByteArray)] from (k22_mkM _ _ _ (⟨(⟨#[240, 128, 128, 128]⟩ : ByteArray), (⟨#[239, 191, 189]⟩ : ByteArray)⟩ : S22) )) (Reps.c2 (show Kd.M k22 _ _ _ (⟨(⟨#[244, 143, 191, 191]⟩ : ByteArray), (⟨#[244, 143, 191, 191]⟩ : ByteArray)⟩ : S22) [.string (⟨#[244, 143, 191, 191]⟩ : ByteArray), .string (⟨#[244, 143, 191, 191]⟩ : ByteArray)] from (k22_mkM _ _ _ (⟨(⟨#[244, 143, 191, 191]⟩ : ByteArray), (⟨#[244, 143, 191, 191]⟩ : ByteArray)⟩ : S22) )) (Reps.c2 (show Kd.M k22 _ _ _ (⟨(⟨#[244, 144, 128, 128]⟩ : ByteArray), (⟨#[239, 191, 189]⟩ : ByteArray)⟩ : S22) [.string (⟨#[244, 144, 128, 128]⟩ : ByteArray), .string (⟨#[239, 191, 189]⟩ : ByteArray)] from (k22_mkM _ _ _ (⟨(⟨#[244, 144, 128, 128]⟩ : ByteArray), (⟨#[239, 191, 189]⟩ : ByteArray)⟩ : S22) )) (Reps.c2 (show Kd.M k22 _ _ _ (⟨(⟨#[247, 191, 191, 191]⟩ : ByteArray), (⟨#[239, 191, 189]⟩ : ByteArray)⟩ : S22) [.string (⟨#[247, 191, 191, 191]⟩ : ByteArray), .string (⟨#[239, 191, 189]⟩ : ByteArray)] from (k22_mkM _ _ _ (⟨(⟨#[247, 191, 191, 191]⟩ : ByteArray), (⟨#[239, 191, 189]⟩ : ByteArray)⟩ : S22) )) (Reps.c2 (show Kd.M k22 _ _ _ (⟨(⟨#[248]⟩ : ByteArray), (⟨#[239, 191, 189]⟩ : ByteArray)⟩ : S22) [.string (⟨#[248]⟩ : ByteArray), .string (⟨#[239, 191, 189]⟩ : ByteArray)] from (k22_mkM _ _ _ (⟨(⟨#[248]⟩ : ByteArray), (⟨#[239, 191, 189]⟩ : ByteArray)⟩ : S22) )) (Reps.c2 (show Kd.M k22 _ _ _ (⟨(⟨#[255, 254]⟩ : ByteArray), (⟨#[239, 191, 189, 239, 191, 189]⟩ : ByteArray)⟩ : S22) [.string (⟨#[255, 254]⟩ : ByteArray), .string (⟨#[239, 191, 189, 239, 191, 189]⟩ : ByteArray)] from (k22_mkM _ _ _ (⟨(⟨#[255, 254]⟩ : ByteArray), (⟨#[239, 191, 189, 239, 191, 189]⟩ : ByteArray)⟩ : S22) )) (Reps.c2 (show Kd.M k22 _ _ _ (⟨(⟨#[128]⟩ : ByteArray), (⟨#[239, 191, 189]⟩ : ByteArray)⟩ : S22) [.string (⟨#[128]⟩ : ByteArray), .string (⟨#[239, 191, 189]⟩ : ByteArray)] from (k22_mkM _ _ _ (⟨(⟨#[128]⟩ : ByteArray), (⟨#[239, 191, 189]⟩ : ByteArray)⟩ : S22) )) (Reps.c2 (show Kd.M k22 _ _ _ (⟨(⟨#[195]⟩ : ByteArray), (⟨#[239, 191, 189]⟩ : ByteArray)⟩ : S22) [.string (⟨#[195]⟩ : ByteArray), .string (⟨#[239, 191, 189]⟩ : ByteArray)] from (k22_mkM _ _ _ (⟨(⟨#[195]⟩ : ByteArray), (⟨#[239, 191, 189]⟩ : ByteArray)⟩ : S22) )) (Reps.c2 (show Kd.M k22 _ _ _ (⟨(⟨#[195, 97]⟩ : ByteArray), (⟨#[239, 191, 189, 97]⟩ : ByteArray)⟩ : S22) [.string (⟨#[195, 97]⟩ : ByteArray), .string (⟨#[239, 191, 189, 97]⟩ : ByteArray)] from (k22_mkM _ _ _ (⟨(⟨#[195, 97]⟩ : ByteArray), (⟨#[239, 191, 189, 97]⟩ : ByteArray)⟩ : S22) )) (Reps.c2 (show Kd.M k22 _ _ _ (⟨(⟨#[226, 130]⟩ : ByteArray), (⟨#[239, 191, 189]⟩ : ByteArray)⟩ : S22) [.string (⟨#[226, 130]⟩ : ByteArray), .string (⟨#[239, 191, 189]⟩ : ByteArray)] from (k22_mkM _ _ _ (⟨(⟨#[226, 130]⟩ : ByteArray), (⟨#[239, 191, 189]⟩ : ByteArray)⟩ : S22) )) (Reps.c2 (show Kd.M k22 _ _ _ (⟨(⟨#[226, 130, 195, 169]⟩ : ByteArray), (⟨#[239, 191, 189, 195, 169]⟩ : ByteArray)⟩ : S22) [.string (⟨#[226, 130, 195, 169]⟩ : ByteArray), .string (⟨#[239, 191, 189, 195, 169]⟩ : ByteArray)] from (k22_mkM _ _ _ (⟨(⟨#[226, 130, 195, 169]⟩ : ByteArray), (⟨#[239, 191, 189, 195, 169]⟩ : ByteArray)⟩ : S22) )) (Reps.c2 (show Kd.M k22 _ _ _ (⟨(⟨#[226, 195, 169, 97]⟩ : ByteArray), (⟨#[239, 191, 189, 195, 169, 97]⟩ : ByteArray)⟩ : S22) [.string (⟨#[226, 195, 169, 97]⟩ : ByteArray), .string (⟨#[239, 191, 189, 195, 169, 97]⟩ : ByteArray)] from (k22_mkM _ _ _ (⟨(⟨#[226, 195, 169, 97]⟩ : ByteArray), (⟨#[239, 191, 189, 195, 169, 97]⟩ : ByteArray)⟩ : S22) )) (Reps.c2 (show Kd.M k22 _ _ _ (⟨(⟨#[239, 191, 189]⟩ : ByteArray), (⟨#[239, 191, 189]⟩ : ByteArray)⟩ : S22) [.string (⟨#[239, 191, 189]⟩ : ByteArray), .string (⟨#[239, 191, 189]⟩ : ByteArray)] from (k22_mkM _ _ _ (⟨(⟨#[239, 191, 189]⟩ : ByteArray), (⟨#[239, 191, 189]⟩ : ByteArray)⟩ : S22) )) (Reps.none _ _))))))))))))))))))))))))); intro v199 w6 ho7 hb hg_ hnew_; clear hg_ hnew_; (first | rw [← Ny198.out] at ho7 | (simp only [Int.reduceToNat] at ho7; rw [← Ny198.out] at ho7)); have n0_ := Aside0.mk (Kd.R_lower ho7 (below_size (by repeat (first | (with_reducible first | exact HB.out | apply below_alloc | apply pw_below_drewN | apply below_drew1) | exact HB.out)))); have n1_ := Aside0.mk (below_step (by repeat (first | (with_reducible first | exact HB.out | apply below_alloc | apply pw_below_drewN | apply below_drew1) | exact HB.out)) hb); clear HB; have HO200 := n0_; have HB := n1_; clear n0_ n1_; clear hb ho7; obtain ⟨Ao8, co8, eo8⟩ := Kd.R_slice HO200.out; subst eo8; have p201 : 0 ≤ ((ji3) : Int) := of_decide_eq_true (by first | (with_reducible assumption) | assumption); have q201 : (ji3) < (y198.length : Int) := of_decide_eq_true (by first | (with_reducible assumption) | assumption); obtain ⟨ad201, e201, hx201_0, hx201_1⟩ := at_T22 (Kd.R_reads' HO200.out).2.2 (ji3) p201 q201; cases e201; replace p201 := eq_true p201; replace q201 := eq_true q201) | ((with_reducible refine gate_dst (N := 4) rfl ?_); refine box_event ?hg (N := 4) ?hd (cs := #[.string (⟨#[]⟩ : ByteArray), .string (⟨#[]⟩ : ByteArray)]) (t := 22) ?hr ?_; (case hd => rfl); (case hg => rfl); (case hr => first | (go_simp; done) | (go_simp; rfl)); intro gb202 hg w9 hbox hb; have n0_ := Aside0.mk (Kd.R_below (Kd.R_elderB (by (with_reducible repeat (first | apply Kd.R_alloc | apply Kd.R_drewN | apply Kd.R_drew)); exact HO200.out) gb202 (Nat.le_of_eq hg.symm)) hb); have n1_ := Aside0.mk (below_step (by repeat (first | (with_reducible first | exact HB.out | apply below_alloc | apply pw_below_drewN | apply below_drew1) | exact HB.out)) hb); have n2_ := Aside0.mk (hbox); have n3_ := Aside0.mk ((by rw [hg]; exact (below_size (by repeat (first | (with_reducible first | exact HB.out | apply below_alloc | apply pw_below_drewN | apply below_drew1) | exact HB.out))) : w.heap.size ≤ gb202)); have n4_ := Aside0.mk ((by rw [hg]; exact (below_size (by repeat (first | (with_reducible first | exact HB.out | apply below_alloc | apply pw_below_drewN | apply below_drew1) | exact HB.out))) : w.heap.size ≤ gb202)); clear HO200; clear HB; have HO200 := n0_; have HB := n1_; have BK202 := n2_; have GW202 := n3_; have GE202 := n4_; clear n0_ n1_ n2_ n3_ n4_; clear hb hbox hg; have hcz10_0 : w9.cell? ⟨gb202, 0, none⟩ = some (.string (⟨#[]⟩ : ByteArray)) := (blk_cell BK202.out 0).trans rfl; have hcz10_1 : w9.cell? ⟨gb202, 1, none⟩ = some (.string (⟨#[]⟩ : ByteArray)) := (blk_cell BK202.out 1).trans rfl; have hfz10_0 := blk_frozen BK202.out 0; have hfz10_1 := blk_frozen BK202.out 1) | ((with_reducible refine gate_dst (N := 5) rfl ?_); refine box_event ?hg (N := 5) ?hd (cs := #[.int .i64 0, .int .i64 0, .int .i64 0]) (t := 25) ?hr ?_; (case hd => rfl); (case hg => rfl); (case hr => first | (go_simp; done) | (go_simp; rfl)); intro gb203 hg w11 hbox hb; have n0_ := Aside0.mk (Kd.R_below (by (with_reducible repeat (first | apply Kd.R_alloc | apply Kd.R_drewN | apply Kd.R_drew)); exact (Kd.R_mono (Kd.R_far (p := ⟨gb202, 1, none⟩) (Kd.R_far (p := ⟨gb202, 0, none⟩) (Kd.R_mono HO200.out (fun k_ hk => (⟨hk, hk.2⟩ : _ ∧ k_ ≠ gb202))) (fun _ hk => hk.2) (.string ((rd_T22 y198 (ji3)).f0))) (fun _ hk => hk.2) (.string ((rd_T22 y198 (ji3)).f1))) (fun _ h_ => h_.1))) hb); have n1_ := Aside0.mk (blk_below (g := gb202) (o := .cells #[.string ((rd_T22 y198 (ji3)).f0), .string ((rd_T22 y198 (ji3)).f1)] 22 (0, 0)) (by (with_reducible repeat (first | refine blk_drewN ?_ _ | refine blk_drew ?_ | refine blk_alloc ?_ _)); refine blk_put (cs := #[.string ((rd_T22 y198 (ji3)).f0), .string (⟨#[]⟩ : ByteArray)]) ?_ 1 _ rfl; (with_reducible repeat (first | refine blk_drewN ?_ _ | refine blk_drew ?_ | refine blk_alloc ?_ _)); refine blk_put (cs := #[.string (⟨#[]⟩ : ByteArray), .string (⟨#[]⟩ : ByteArray)]) ?_ 0 _ rfl; (with_reducible repeat (first | refine blk_drewN ?_ _ | refine blk_drew ?_ | refine blk_alloc ?_ _)); exact BK202.out) hb); have n2_ := Aside0.mk (below_step (by repeat (first | (with_reducible first | exact HB.out | apply below_alloc | apply pw_below_drewN | apply below_drew1 | refine below_set ?_ GE202.out) | exact HB.out)) hb); have n3_ := Aside0.mk (hbox); have n4_ := Aside0.mk ((by rw [hg]; exact (below_size (by repeat (first | (with_reducible first | exact HB.out | apply below_alloc | apply pw_below_drewN | apply below_drew1 | refine below_set ?_ GE202.out) | exact HB.out))) : w.heap.size ≤ gb203)); have n5_ := Aside0.mk ((by rw [hg]; exact (below_size (by repeat (first | (with_reducible first | exact HB.out | apply below_alloc | apply pw_below_drewN | apply below_drew1 | refine below_set ?_ GE202.out) | exact HB.out))) : w.heap.size ≤ gb203)); have n6_ := Aside0.mk ((by rw [hg]; exact Nat.ne_of_lt (blk_lt (g := gb202) (o := .cells #[.string ((rd_T22 y198 (ji3)).f0), .string ((rd_T22 y198 (ji3)).f1)] 22 (0, 0)) (by (with_reducible repeat (first | refine blk_drewN ?_ _ | refine blk_drew ?_ | refine blk_alloc ?_ _)); refine blk_put (cs := #[.string ((rd_T22 y198 (ji3)).f0), .string (⟨#[]⟩ : ByteArray)]) ?_ 1 _ rfl; (with_reducible repeat (first | refine blk_drewN ?_ _ | refine blk_drew ?_ | refine blk_alloc ?_ _)); refine blk_put (cs := #[.string (⟨#[]⟩ : ByteArray), .string (⟨#[]⟩ : ByteArray)]) ?_ 0 _ rfl; (with_reducible repeat (first | refine blk_drewN ?_ _ | refine blk_drew ?_ | refine blk_alloc ?_ _)); exact BK202.out)) : gb202 ≠ gb203)); have n7_ := Aside0.mk ((by rw [hg]; exact Nat.ne_of_gt (blk_lt (g := gb202) (o := .cells #[.string ((rd_T22 y198 (ji3)).f0), .string ((rd_T22 y198 (ji3)).f1)] 22 (0, 0)) (by (with_reducible repeat (first | refine blk_drewN ?_ _ | refine blk_drew ?_ | refine blk_alloc ?_ _)); refine blk_put (cs := #[.string ((rd_T22 y198 (ji3)).f0), .string (⟨#[]⟩ : ByteArray)]) ?_ 1 _ rfl; (with_reducible repeat (first | refine blk_drewN ?_ _ | refine blk_drew ?_ | refine blk_alloc ?_ _)); refine blk_put (cs := #[.string (⟨#[]⟩ : ByteArray), .string (⟨#[]⟩ : ByteArray)]) ?_ 0 _ rfl; (with_reducible repeat (first | refine blk_drewN ?_ _ | refine blk_drew ?_ | refine blk_alloc ?_ _)); exact BK202.out)) : gb203 ≠ gb202)); clear HO200; clear BK202; clear HB; have HO200 := n0_; have BK202 := n1_; have HB := n2_; have BK203 := n3_; have GW203 := n4_; have GE203 := n5_; have NB202_203 := n6_; have NB203_202 := n7_; clear n0_ n1_ n2_ n3_ n4_ n5_ n6_ n7_; clear hb hbox hg; have hnb12 := NB203_202.out; have hnc12 := NB202_203.out; have hcz13_0 : w11.cell? ⟨gb203, 0, none⟩ = some (.int .i64 0) := (blk_cell BK203.out 0).trans rfl; have hcz13_1 : w11.cell? ⟨gb203, 1, none⟩ = some (.int .i64 0) := (blk_cell BK203.out 1).trans rfl; have hcz13_2 : w11.cell? ⟨gb203, 2, none⟩ = some (.int .i64 0) := (blk_cell BK203.out 2).trans rfl; have hfz13_0 := blk_frozen BK203.out 0; have hfz13_1 := blk_frozen BK203.out 1; have hfz13_2 := blk_frozen BK203.out 2))
        go_loopg [6, 7] k (fun kq v6 v7 w' => ∃ (x6_1 : List Int) (x7_1 : Int) (x204000_1 : Int) (x204001_1 : Int) (x204002_1 : Int), v7 = .int .i64 x7_1 ∧ Aside0 (polyptychlaw1_UtfdForms.l0 kq x6_1 x7_1 ((rd_T22 y198 (ji3)).f0) ((rd_T22 y198 (ji3)).f1) x204000_1 x204001_1 x204002_1 = some r) ∧ Aside0 (kq ≤ k) ∧ Aside0 (Kd.R (Kd.int .i32) 21 w' w.heap.size (fun _ => True) v6 x6_1) ∧ Aside0 (w'.heap[gb202]? = some (.cells #[.string ((rd_T22 y198 (ji3)).f0), .string ((rd_T22 y198 (ji3)).f1)] 22 (0, 0))) ∧ Aside0 (w'.heap[gb203]? = some (.cells #[.int .i64 x204000_1, .int .i64 x204001_1, .int .i64 x204002_1] 25 (0, 0))) ∧ Aside0 (Below w.heap.size w w'))
        case atStart => exact ⟨(([] : List Int)), (0), (0), (0), (0), (by first | rfl | (simp; done) | (simp [*]; done)), H', ⟨Nat.le_refl _⟩, ⟨by first | exact Kd.R_nil _ _ _ _ _ | exact Kd.N_nil _ _ _ _ _ | exact Kd.V_nil _ _ _ _ _ | exact Kd.Q_nil _ _ _ _ _ | exact Kd.S_nil _ _ _ _ _⟩, ⟨by (with_reducible repeat (first | refine blk_drewN ?_ _ | refine blk_drew ?_ | refine blk_alloc ?_ _)); refine blk_far ?_ NB202_203.out _; (with_reducible repeat (first | refine blk_drewN ?_ _ | refine blk_drew ?_ | refine blk_alloc ?_ _)); refine blk_far ?_ NB202_203.out _; (with_reducible repeat (first | refine blk_drewN ?_ _ | refine blk_drew ?_ | refine blk_alloc ?_ _)); refine blk_far ?_ NB202_203.out _; (with_reducible repeat (first | refine blk_drewN ?_ _ | refine blk_drew ?_ | refine blk_alloc ?_ _)); exact BK202.out⟩, ⟨by (with_reducible repeat (first | refine blk_drewN ?_ _ | refine blk_drew ?_ | refine blk_alloc ?_ _)); refine blk_put (cs := #[.int .i64 0, .int .i64 0, .int .i64 0]) ?_ 2 _ rfl; (with_reducible repeat (first | refine blk_drewN ?_ _ | refine blk_drew ?_ | refine blk_alloc ?_ _)); refine blk_put (cs := #[.int .i64 0, .int .i64 0, .int .i64 0]) ?_ 1 _ rfl; (with_reducible repeat (first | refine blk_drewN ?_ _ | refine blk_drew ?_ | refine blk_alloc ?_ _)); refine blk_put (cs := #[.int .i64 0, .int .i64 0, .int .i64 0]) ?_ 0 _ rfl; (with_reducible repeat (first | refine blk_drewN ?_ _ | refine blk_drew ?_ | refine blk_alloc ?_ _)); exact BK203.out⟩, ⟨by repeat (first | (with_reducible first | exact HB.out | apply below_alloc | apply pw_below_drewN | apply below_drew1 | refine below_set ?_ GE202.out | refine below_set ?_ GE203.out) | exact HB.out)⟩⟩
        case round =>
          clear H'
          try clear c1
          try clear c2
          try clear c2b0
          try clear c2b1
          try clear c2b2
          try clear p2
          try clear q2
          try clear hx2
          try clear c3
          try clear c4
          try clear c4b0
          try clear c5
          try clear c5b0
          try clear c12
          try clear hcz10_0
          try clear hcz10_1
          try clear hcz13_0
          try clear hcz13_1
          try clear hcz13_2
          try clear hfz10_0
          try clear hfz10_1
          try clear hfz13_0
          try clear hfz13_1
          try clear hfz13_2
          try clear hx201_0
          try clear hx201_1
          try clear p201
          try clear q201
          obtain ⟨x6_1, x7_1, x204000_1, x204001_1, x204002_1, rfl, HA, HK1, HO_6, BK202, BK203, HB⟩ := hrel
          cases gk with
          | zero => exact absurd HA.out (by simp [polyptychlaw1_UtfdForms.l0])
          | succ k1 =>
            have H := HA.out
            clear HA
            simp only [polyptychlaw1_UtfdForms.l0] at H
            by_cases c14 : x7_1 < (((rd_T22 y198 (ji3)).f0).size : Int)
            · rw [if_pos c14] at H
              have c14b0 : decide (x7_1 < (((rd_T22 y198 (ji3)).f0).size : Int)) = true := decide_eq_true c14
              clear c14
              by_cases c15 : 0 ≤ x7_1
              · rw [if_pos c15] at H
                have c15b0 : decide (0 ≤ x7_1) = true := decide_eq_true c15
                clear c15
                replace H := Option.bind_eq_some_iff.mp H
                obtain ⟨⟨t204, t205, t206, t207⟩, A170, H⟩ := H
                replace H : (if x6_1.length + t207.length < 35184372088832 then (polyptychlaw1_UtfdForms.l0 k1 (x6_1 ++ t207) (wrap64 (x7_1 + 1)) ((rd_T22 y198 (ji3)).f0) ((rd_T22 y198 (ji3)).f1) t204 t205 t206) else (none)) = some r := H
                have A17 := Aside0.mk A170
                clear A170
                by_cases c18 : x6_1.length + t207.length < 35184372088832
                · rw [if_pos c18] at H
                  have LMc18 := Aside0.mk c18
                  clear c18
                  obtain ⟨y211, hy211⟩ : ∃ y_ : List Int, y_ = (x6_1 ++ t207) := ⟨_, rfl⟩
                  replace H : (polyptychlaw1_UtfdForms.l0 k1 y211 (wrap64 (x7_1 + 1)) ((rd_T22 y198 (ji3)).f0) ((rd_T22 y198 (ji3)).f1) t204 t205 t206) = some r := by first | (rw [hy211]; with_reducible exact H) | (have H2_ := (Option.bind_some _ _).symm.trans H; rw [hy211]; with_reducible exact H2_) | (have H2_ := (Option.bind_some _ _).symm.trans H; with_reducible exact H2_) | with_reducible exact H | (rw [hy211]; exact H) | exact H
                  have Ny211 := Aside0.mk hy211
                  clear hy211
                  have H' := Aside0.mk H
                  clear H
                  have hnb19 := NB202_203.out
                  have hnc19 := NB203_202.out
                  have hcz20_0 : wr.cell? ⟨gb202, 0, none⟩ = some (.string ((rd_T22 y198 (ji3)).f0)) := (blk_cell BK202.out 0).trans rfl
                  have hcz20_1 : wr.cell? ⟨gb202, 1, none⟩ = some (.string ((rd_T22 y198 (ji3)).f1)) := (blk_cell BK202.out 1).trans rfl
                  have hfz20_0 := blk_frozen BK202.out 0
                  have hfz20_1 := blk_frozen BK202.out 1
                  try go_wp2
                  have n0_ := Aside0.mk (Kd.R_drew HO_6.out)
                  have n1_ := Aside0.mk (blk_drew BK202.out)
                  have n2_ := Aside0.mk (blk_drew BK203.out)
                  have n3_ := Aside0.mk (below_drew1 HB.out)
                  clear HO_6
                  clear BK202
                  clear BK203
                  clear HB
                  have HO_6 := n0_
                  have BK202 := n1_
                  have BK203 := n2_
                  have HB := n3_
                  clear n0_ n1_ n2_ n3_
                  have p16 : 0 ≤ (x7_1 : Int) := of_decide_eq_true (by first | (with_reducible assumption) | assumption)
                  have q16 : x7_1 < (((rd_T22 y198 (ji3)).f0).size : Int) := of_decide_eq_true (by first | (with_reducible assumption) | assumption)
                  have hx16 := bt_at ((rd_T22 y198 (ji3)).f0) x7_1
                  replace p16 := eq_true p16
                  replace q16 := eq_true q16
                  refine start_ (n := 12) (S := fun w' => w'.cell? ⟨gb203, 0, none⟩ = some (.int .i64 x204000_1) ∧ w'.cell? ⟨gb203, 1, none⟩ = some (.int .i64 x204001_1) ∧ w'.cell? ⟨gb203, 2, none⟩ = some (.int .i64 x204002_1) ∧ w'.cell? ⟨gb202, 0, none⟩ = some (.string ((rd_T22 y198 (ji3)).f0)) ∧ w'.cell? ⟨gb202, 1, none⟩ = some (.string ((rd_T22 y198 (ji3)).f1))) (ds := []) #[false, false, false, false, false, false, false, false, false, false, false, false] (by kernel_rfl) rfl rfl ⟨(blk_cell BK203.out 0).trans rfl, (blk_cell BK203.out 1).trans rfl, (blk_cell BK203.out 2).trans rfl, (blk_cell BK202.out 0).trans rfl, (blk_cell BK202.out 1).trans rfl⟩ (fun hHeld => ?_); refine with_tabW polyptychlaw1_UtfdForms.tab8 polyptychlaw1_UtfdForms.bits8 (fun HT_ HW_ => ?_)
                  generalize wr.drew = w21 at HO_6 BK202 BK203 HB hHeld ⊢
                  refine pure_ (i := 1) (N := some 52) (v := ?_) (a' := ?_) #[false, true, false, false, false, false, false, false, false, false, false, false] rfl rfl (any_of HT_.out (by kernel_rfl)) (fun _ _ _ h => h) (Or.inl ⟨by rfl, ?_⟩) ?_ ?_
                  rotate_left
                  · intro w'
                    go_simp
                    with_reducible rfl
                  rotate_left
                  · simp only [Act.put, List.setIfInBounds_toArray, List.set_cons_zero, List.set_cons_succ, i64_w, i32_w]
                    rfl
                  refine pure_ (i := 3) (N := some 54) (v := ?_) (a' := ?_) #[false, true, false, true, false, false, false, false, false, false, false, false] rfl rfl (any_of HT_.out (by kernel_rfl)) (fun _ _ _ h => h) (Or.inl ⟨by rfl, ?_⟩) ?_ ?_
                  rotate_left
                  · intro w'
                    go_simp
                    with_reducible rfl
                  rotate_left
                  · simp only [Act.put, List.setIfInBounds_toArray, List.set_cons_zero, List.set_cons_succ, i64_w, i32_w]
                    rfl
                  refine take_ (i := 0) (N := some 51) (v := ?_) (a' := ?_) #[true, true, false, true, false, false, false, false, false, false, false, false] rfl rfl (take_ofW HT_.out HW_.out (by kernel_rfl)) (fun _ _ _ h => h) (Or.inl ⟨by rfl, ?_⟩) hHeld ?_ ?_
                  rotate_left
                  · rintro w' ⟨s0, s1, s2, s3, s4⟩
                    go_simp
                    with_reducible rfl
                  rotate_left
                  · simp only [Act.put, List.setIfInBounds_toArray, List.set_cons_zero, List.set_cons_succ, i64_w, i32_w]
                    rfl
                  refine take_ (i := 2) (N := some 53) (v := ?_) (a' := ?_) #[true, true, true, true, false, false, false, false, false, false, false, false] rfl rfl (take_ofW HT_.out HW_.out (by kernel_rfl)) (fun _ _ _ h => h) (Or.inl ⟨by rfl, ?_⟩) hHeld ?_ ?_
                  rotate_left
                  · rintro w' ⟨s0, s1, s2, s3, s4⟩
                    go_simp
                    with_reducible rfl
                  rotate_left
                  · simp only [Act.put, List.setIfInBounds_toArray, List.set_cons_zero, List.set_cons_succ, i64_w, i32_w]
                    rfl
                  refine take_ (i := 4) (N := some 55) (v := ?_) (a' := ?_) #[true, true, true, true, true, false, false, false, false, false, false, false] rfl rfl (take_ofW HT_.out HW_.out (by kernel_rfl)) (fun _ _ _ h => h) (Or.inl ⟨by rfl, ?_⟩) hHeld ?_ ?_
                  rotate_left
                  · rintro w' ⟨s0, s1, s2, s3, s4⟩
                    go_simp
                    with_reducible rfl
                  rotate_left
                  · simp only [Act.put, List.setIfInBounds_toArray, List.set_cons_zero, List.set_cons_succ, i64_w, i32_w]
                    rfl
                  refine join_ (σ := Value × Nat) 2 #[true, true, true, true, true, true, true, true, true, true, false, false] (fun s_ => [(56, .tuple #[.agg #[.int .i64 t204, .int .i64 t205, .int .i64 t206], s_.1]), (8, .pointer (some ⟨s_.2, 0, none⟩)), (50, .tuple #[.agg #[.int .i64 t204, .int .i64 t205, .int .i64 t206], s_.1]), (57, .agg #[.int .i64 t204, .int .i64 t205, .int .i64 t206]), (58, s_.1)]) (fun s_ w' => (w'.cell? ⟨gb203, 0, none⟩ = some (.int .i64 x204000_1) ∧ w'.cell? ⟨gb203, 1, none⟩ = some (.int .i64 x204001_1) ∧ w'.cell? ⟨gb203, 2, none⟩ = some (.int .i64 x204002_1) ∧ w'.cell? ⟨gb202, 0, none⟩ = some (.string ((rd_T22 y198 (ji3)).f0)) ∧ w'.cell? ⟨gb202, 1, none⟩ = some (.string ((rd_T22 y198 (ji3)).f1))) ∧ (Kd.R (Kd.int .i32) 21 w' w.heap.size (fun k_ => some k_ ≠ (u6 : Value).ownBlock) s_.1 t207) ∧ (Kd.R (Kd.int .i32) 21 w' w.heap.size (fun k_ => some k_ ≠ (s_.1 : Value).ownBlock) u6 x6_1) ∧ (w'.heap[gb202]? = some (.cells #[.string ((rd_T22 y198 (ji3)).f0), .string ((rd_T22 y198 (ji3)).f1)] 22 (0, 0))) ∧ (w'.heap[gb203]? = some (.cells #[.int .i64 x204000_1, .int .i64 x204001_1, .int .i64 x204002_1] 25 (0, 0))) ∧ (w'.heap[s_.2]? = some (.cells #[.int .i64 0, .int .i64 0, .int .i64 0] 25 (0, 0))) ∧ (w.heap.size ≤ s_.2) ∧ (w.heap.size ≤ s_.2) ∧ (gb202 ≠ s_.2) ∧ (s_.2 ≠ gb202) ∧ (gb203 ≠ s_.2) ∧ (s_.2 ≠ gb203) ∧ (Below w.heap.size w w')) ?_ ?_
                  rotate_left
                  · intro hCont
                    refine two_ (i := 5) (j := 9) (Ni := some 56) (Nj := some 8) #[true, true, true, true, true, true, false, false, false, false, false, false] #[true, true, true, true, true, false, false, false, false, true, false, false] rfl rfl rfl rfl (two_of HT_.out (by kernel_rfl)) (by decide) (by decide) (fun K hK => ?_) (fun K hK => ?_)
                    · skip
                      refine goes_ Try.func7 (by kernel_rfl) rfl #[.agg #[.int .i64 x204000_1, .int .i64 x204001_1, .int .i64 x204002_1], .int .u8 (bt ((rd_T22 y198 (ji3)).f0) x7_1)] (by rfl) rfl rfl (by (try simp only [List.map_toArray, List.map_cons, List.map_nil]); first | done | (simp only [hji3]; rfl) | rfl | (simp only [List.length_drop, List.length_take]; rfl)) ?_
                      with_reducible refine (utfd_Step.calls k1 x204000_1 x204001_1 x204002_1 (bt ((rd_T22 y198 (ji3)).f0) x7_1) t204 t205 t206 t207 _ A17.out).mono ?_
                      rintro e w22 ⟨v208, rfl, ho0, hb⟩
                      refine ⟨_, rfl, ?_⟩
                      have n0_ := Aside0.mk (Kd.R_elder' (by (with_reducible repeat (first | apply Kd.R_alloc | apply Kd.R_drewN | apply Kd.R_drew)); exact HO_6.out) (Kd.R_base ho0) hb)
                      have n1_ := Aside0.mk (Kd.R_lower (Kd.R_new' ho0 (Kd.R_lt (by (with_reducible repeat (first | apply Kd.R_alloc | apply Kd.R_drewN | apply Kd.R_drew)); exact HO_6.out))) (below_size (by repeat (first | (with_reducible first | exact HB.out | apply below_alloc | apply pw_below_drewN | apply below_drew1 | refine below_set ?_ GE202.out | refine below_set ?_ GE203.out) | exact HB.out))))
                      have n2_ := Aside0.mk (blk_below (g := gb202) (o := .cells #[.string ((rd_T22 y198 (ji3)).f0), .string ((rd_T22 y198 (ji3)).f1)] 22 (0, 0)) (by (with_reducible repeat (first | refine blk_drewN ?_ _ | refine blk_drew ?_ | refine blk_alloc ?_ _)); exact BK202.out) hb)
                      have n3_ := Aside0.mk (blk_below (g := gb203) (o := .cells #[.int .i64 x204000_1, .int .i64 x204001_1, .int .i64 x204002_1] 25 (0, 0)) (by (with_reducible repeat (first | refine blk_drewN ?_ _ | refine blk_drew ?_ | refine blk_alloc ?_ _)); exact BK203.out) hb)
                      have n4_ := Aside0.mk (below_step (by repeat (first | (with_reducible first | exact HB.out | apply below_alloc | apply pw_below_drewN | apply below_drew1 | refine below_set ?_ GE202.out | refine below_set ?_ GE203.out) | exact HB.out)) hb)
                      clear HO_6
                      clear BK202
                      clear BK203
                      clear HB
                      have HO_6 := n0_
                      have HO209 := n1_
                      have BK202 := n2_
                      have BK203 := n3_
                      have HB := n4_
                      clear n0_ n1_ n2_ n3_ n4_
                      (try clear hb)
                      (try clear hb2)
                      (try clear hk)
                      (try clear hi)
                      (try clear ho0)
                      refine hK.out _ _ ⟨(blk_cell BK203.out 0).trans rfl, (blk_cell BK203.out 1).trans rfl, (blk_cell BK203.out 2).trans rfl, (blk_cell BK202.out 0).trans rfl, (blk_cell BK202.out 1).trans rfl⟩ (fun hHeld => ?_)
                      clear hK K
                      refine norm_ (a' := ?_) ?_ ?_
                      rotate_left
                      · show Act.put _ (some 56) _ = _
                        simp only [Act.put, List.setIfInBounds_toArray, List.set_cons_zero, List.set_cons_succ, i64_w, i32_w]
                        rfl
                      refine pure_ (i := 6) (N := some 50) (v := ?_) (a' := ?_) #[true, true, true, true, true, true, true, false, false, false, false, false] rfl rfl (any_of HT_.out (by kernel_rfl)) (fun _ _ _ h => h) (Or.inl ⟨by rfl, ?_⟩) ?_ ?_
                      rotate_left
                      · intro w'
                        go_simp
                        with_reducible rfl
                      rotate_left
                      · simp only [Act.put, List.setIfInBounds_toArray, List.set_cons_zero, List.set_cons_succ, i64_w, i32_w]
                        rfl
                      refine pure_ (i := 7) (N := some 57) (v := ?_) (a' := ?_) #[true, true, true, true, true, true, true, true, false, false, false, false] rfl rfl (any_of HT_.out (by kernel_rfl)) (fun _ _ _ h => h) (Or.inl ⟨by rfl, ?_⟩) ?_ ?_
                      rotate_left
                      · intro w'
                        go_simp
                        with_reducible rfl
                      rotate_left
                      · simp only [Act.put, List.setIfInBounds_toArray, List.set_cons_zero, List.set_cons_succ, i64_w, i32_w]
                        rfl
                      refine pure_ (i := 8) (N := some 58) (v := ?_) (a' := ?_) #[true, true, true, true, true, true, true, true, true, false, false, false] rfl rfl (any_of HT_.out (by kernel_rfl)) (fun _ _ _ h => h) (Or.inl ⟨by rfl, ?_⟩) ?_ ?_
                      rotate_left
                      · intro w'
                        go_simp
                        with_reducible rfl
                      rotate_left
                      · simp only [Act.put, List.setIfInBounds_toArray, List.set_cons_zero, List.set_cons_succ, i64_w, i32_w]
                        rfl
                      refine one_ (i := 9) (N := some 8) #[true, true, true, true, true, true, true, true, true, true, false, false] rfl rfl (one_of HT_.out (by kernel_rfl)) (by decide) (fun K hK => ?_)
                      refine box_step ?hg (N := 8) ?hd (cs := #[.int .i64 0, .int .i64 0, .int .i64 0]) (t := 25) ?hr ?_; (case hd => rfl); (case hg => rfl); (case hr => first | (go_simp; done) | (go_simp; rfl))
                      intro gb210 hg w23 hbox hb
                      have n0_ := Aside0.mk (Kd.R_below (by (with_reducible repeat (first | apply Kd.R_alloc | apply Kd.R_drewN | apply Kd.R_drew)); exact HO_6.out) hb)
                      have n1_ := Aside0.mk (Kd.R_below (by (with_reducible repeat (first | apply Kd.R_alloc | apply Kd.R_drewN | apply Kd.R_drew)); exact HO209.out) hb)
                      have n2_ := Aside0.mk (blk_below (g := gb202) (o := .cells #[.string ((rd_T22 y198 (ji3)).f0), .string ((rd_T22 y198 (ji3)).f1)] 22 (0, 0)) (by (with_reducible repeat (first | refine blk_drewN ?_ _ | refine blk_drew ?_ | refine blk_alloc ?_ _)); exact BK202.out) hb)
                      have n3_ := Aside0.mk (blk_below (g := gb203) (o := .cells #[.int .i64 x204000_1, .int .i64 x204001_1, .int .i64 x204002_1] 25 (0, 0)) (by (with_reducible repeat (first | refine blk_drewN ?_ _ | refine blk_drew ?_ | refine blk_alloc ?_ _)); exact BK203.out) hb)
                      have n4_ := Aside0.mk (below_step (by repeat (first | (with_reducible first | exact HB.out | apply below_alloc | apply pw_below_drewN | apply below_drew1 | refine below_set ?_ GE202.out | refine below_set ?_ GE203.out) | exact HB.out)) hb)
                      have n5_ := Aside0.mk (hbox)
                      have n6_ := Aside0.mk ((by rw [hg]; exact (below_size (by repeat (first | (with_reducible first | exact HB.out | apply below_alloc | apply pw_below_drewN | apply below_drew1 | refine below_set ?_ GE202.out | refine below_set ?_ GE203.out) | exact HB.out))) : w.heap.size ≤ gb210))
                      have n7_ := Aside0.mk ((by rw [hg]; exact (below_size (by repeat (first | (with_reducible first | exact HB.out | apply below_alloc | apply pw_below_drewN | apply below_drew1 | refine below_set ?_ GE202.out | refine below_set ?_ GE203.out) | exact HB.out))) : w.heap.size ≤ gb210))
                      have n8_ := Aside0.mk ((by rw [hg]; exact Nat.ne_of_lt (blk_lt (g := gb202) (o := .cells #[.string ((rd_T22 y198 (ji3)).f0), .string ((rd_T22 y198 (ji3)).f1)] 22 (0, 0)) (by (with_reducible repeat (first | refine blk_drewN ?_ _ | refine blk_drew ?_ | refine blk_alloc ?_ _)); exact BK202.out)) : gb202 ≠ gb210))
                      have n9_ := Aside0.mk ((by rw [hg]; exact Nat.ne_of_gt (blk_lt (g := gb202) (o := .cells #[.string ((rd_T22 y198 (ji3)).f0), .string ((rd_T22 y198 (ji3)).f1)] 22 (0, 0)) (by (with_reducible repeat (first | refine blk_drewN ?_ _ | refine blk_drew ?_ | refine blk_alloc ?_ _)); exact BK202.out)) : gb210 ≠ gb202))
                      have n10_ := Aside0.mk ((by rw [hg]; exact Nat.ne_of_lt (blk_lt (g := gb203) (o := .cells #[.int .i64 x204000_1, .int .i64 x204001_1, .int .i64 x204002_1] 25 (0, 0)) (by (with_reducible repeat (first | refine blk_drewN ?_ _ | refine blk_drew ?_ | refine blk_alloc ?_ _)); exact BK203.out)) : gb203 ≠ gb210))
                      have n11_ := Aside0.mk ((by rw [hg]; exact Nat.ne_of_gt (blk_lt (g := gb203) (o := .cells #[.int .i64 x204000_1, .int .i64 x204001_1, .int .i64 x204002_1] 25 (0, 0)) (by (with_reducible repeat (first | refine blk_drewN ?_ _ | refine blk_drew ?_ | refine blk_alloc ?_ _)); exact BK203.out)) : gb210 ≠ gb203))
                      clear HO_6
                      clear HO209
                      clear BK202
                      clear BK203
                      clear HB
                      have HO_6 := n0_
                      have HO209 := n1_
                      have BK202 := n2_
                      have BK203 := n3_
                      have HB := n4_
                      have BK210 := n5_
                      have GW210 := n6_
                      have GE210 := n7_
                      have NB202_210 := n8_
                      have NB210_202 := n9_
                      have NB203_210 := n10_
                      have NB210_203 := n11_
                      clear n0_ n1_ n2_ n3_ n4_ n5_ n6_ n7_ n8_ n9_ n10_ n11_
                      clear hb hbox hg
                      refine hK.out _ _ ⟨(blk_cell BK203.out 0).trans rfl, (blk_cell BK203.out 1).trans rfl, (blk_cell BK203.out 2).trans rfl, (blk_cell BK202.out 0).trans rfl, (blk_cell BK202.out 1).trans rfl⟩ (fun hHeld => ?_)
                      clear hK K
                      refine norm_ (a' := ?_) ?_ ?_
                      rotate_left
                      · show Act.put _ (some 8) _ = _
                        simp only [Act.put, List.setIfInBounds_toArray, List.set_cons_zero, List.set_cons_succ, i64_w, i32_w]
                        rfl
                      exact norm_ (by simp only [putAll, Act.put, List.setIfInBounds_toArray, List.set_cons_zero, List.set_cons_succ]) (hCont (v208, gb210) _ ⟨hHeld, (by (with_reducible repeat (first | apply Kd.R_alloc | apply Kd.R_drewN | apply Kd.R_drew)); exact Kd.R_mono HO209.out (fun _ hk => hk.2)), (by (with_reducible repeat (first | apply Kd.R_alloc | apply Kd.R_drewN | apply Kd.R_drew)); exact Kd.R_mono HO_6.out (fun _ hk => hk.2)), (by (with_reducible repeat (first | refine blk_drewN ?_ _ | refine blk_drew ?_ | refine blk_alloc ?_ _)); exact BK202.out), (by (with_reducible repeat (first | refine blk_drewN ?_ _ | refine blk_drew ?_ | refine blk_alloc ?_ _)); exact BK203.out), (by (with_reducible repeat (first | refine blk_drewN ?_ _ | refine blk_drew ?_ | refine blk_alloc ?_ _)); exact BK210.out), GW210.out, GE210.out, NB202_210.out, NB210_202.out, NB203_210.out, NB210_203.out, (by repeat (first | (with_reducible first | exact HB.out | apply below_alloc | apply pw_below_drewN | apply below_drew1 | refine below_set ?_ GE202.out | refine below_set ?_ GE203.out | refine below_set ?_ GE210.out) | exact HB.out))⟩)
                    · skip
                      refine box_step ?hg (N := 8) ?hd (cs := #[.int .i64 0, .int .i64 0, .int .i64 0]) (t := 25) ?hr ?_; (case hd => rfl); (case hg => rfl); (case hr => first | (go_simp; done) | (go_simp; rfl))
                      intro gb210 hg w22 hbox hb
                      have n0_ := Aside0.mk (Kd.R_below (by (with_reducible repeat (first | apply Kd.R_alloc | apply Kd.R_drewN | apply Kd.R_drew)); exact HO_6.out) hb)
                      have n1_ := Aside0.mk (blk_below (g := gb202) (o := .cells #[.string ((rd_T22 y198 (ji3)).f0), .string ((rd_T22 y198 (ji3)).f1)] 22 (0, 0)) (by (with_reducible repeat (first | refine blk_drewN ?_ _ | refine blk_drew ?_ | refine blk_alloc ?_ _)); exact BK202.out) hb)
                      have n2_ := Aside0.mk (blk_below (g := gb203) (o := .cells #[.int .i64 x204000_1, .int .i64 x204001_1, .int .i64 x204002_1] 25 (0, 0)) (by (with_reducible repeat (first | refine blk_drewN ?_ _ | refine blk_drew ?_ | refine blk_alloc ?_ _)); exact BK203.out) hb)
                      have n3_ := Aside0.mk (below_step (by repeat (first | (with_reducible first | exact HB.out | apply below_alloc | apply pw_below_drewN | apply below_drew1 | refine below_set ?_ GE202.out | refine below_set ?_ GE203.out) | exact HB.out)) hb)
                      have n4_ := Aside0.mk (hbox)
                      have n5_ := Aside0.mk ((by rw [hg]; exact (below_size (by repeat (first | (with_reducible first | exact HB.out | apply below_alloc | apply pw_below_drewN | apply below_drew1 | refine below_set ?_ GE202.out | refine below_set ?_ GE203.out) | exact HB.out))) : w.heap.size ≤ gb210))
                      have n6_ := Aside0.mk ((by rw [hg]; exact (below_size (by repeat (first | (with_reducible first | exact HB.out | apply below_alloc | apply pw_below_drewN | apply below_drew1 | refine below_set ?_ GE202.out | refine below_set ?_ GE203.out) | exact HB.out))) : w.heap.size ≤ gb210))
                      have n7_ := Aside0.mk ((by rw [hg]; exact Nat.ne_of_lt (blk_lt (g := gb202) (o := .cells #[.string ((rd_T22 y198 (ji3)).f0), .string ((rd_T22 y198 (ji3)).f1)] 22 (0, 0)) (by (with_reducible repeat (first | refine blk_drewN ?_ _ | refine blk_drew ?_ | refine blk_alloc ?_ _)); exact BK202.out)) : gb202 ≠ gb210))
                      have n8_ := Aside0.mk ((by rw [hg]; exact Nat.ne_of_gt (blk_lt (g := gb202) (o := .cells #[.string ((rd_T22 y198 (ji3)).f0), .string ((rd_T22 y198 (ji3)).f1)] 22 (0, 0)) (by (with_reducible repeat (first | refine blk_drewN ?_ _ | refine blk_drew ?_ | refine blk_alloc ?_ _)); exact BK202.out)) : gb210 ≠ gb202))
                      have n9_ := Aside0.mk ((by rw [hg]; exact Nat.ne_of_lt (blk_lt (g := gb203) (o := .cells #[.int .i64 x204000_1, .int .i64 x204001_1, .int .i64 x204002_1] 25 (0, 0)) (by (with_reducible repeat (first | refine blk_drewN ?_ _ | refine blk_drew ?_ | refine blk_alloc ?_ _)); exact BK203.out)) : gb203 ≠ gb210))
                      have n10_ := Aside0.mk ((by rw [hg]; exact Nat.ne_of_gt (blk_lt (g := gb203) (o := .cells #[.int .i64 x204000_1, .int .i64 x204001_1, .int .i64 x204002_1] 25 (0, 0)) (by (with_reducible repeat (first | refine blk_drewN ?_ _ | refine blk_drew ?_ | refine blk_alloc ?_ _)); exact BK203.out)) : gb210 ≠ gb203))
                      clear HO_6
                      clear BK202
                      clear BK203
                      clear HB
                      have HO_6 := n0_
                      have BK202 := n1_
                      have BK203 := n2_
                      have HB := n3_
                      have BK210 := n4_
                      have GW210 := n5_
                      have GE210 := n6_
                      have NB202_210 := n7_
                      have NB210_202 := n8_
                      have NB203_210 := n9_
                      have NB210_203 := n10_
                      clear n0_ n1_ n2_ n3_ n4_ n5_ n6_ n7_ n8_ n9_ n10_
                      clear hb hbox hg
                      refine hK.out _ _ ⟨(blk_cell BK203.out 0).trans rfl, (blk_cell BK203.out 1).trans rfl, (blk_cell BK203.out 2).trans rfl, (blk_cell BK202.out 0).trans rfl, (blk_cell BK202.out 1).trans rfl⟩ (fun hHeld => ?_)
                      clear hK K
                      refine norm_ (a' := ?_) ?_ ?_
                      rotate_left
                      · show Act.put _ (some 8) _ = _
                        simp only [Act.put, List.setIfInBounds_toArray, List.set_cons_zero, List.set_cons_succ, i64_w, i32_w]
                        rfl
                      refine one_ (i := 5) (N := some 56) #[true, true, true, true, true, true, false, false, false, true, false, false] rfl rfl (one_of HT_.out (by kernel_rfl)) (by decide) (fun K hK => ?_)
                      refine goes_ Try.func7 (by kernel_rfl) rfl #[.agg #[.int .i64 x204000_1, .int .i64 x204001_1, .int .i64 x204002_1], .int .u8 (bt ((rd_T22 y198 (ji3)).f0) x7_1)] (by rfl) rfl rfl (by (try simp only [List.map_toArray, List.map_cons, List.map_nil]); first | done | (simp only [hji3]; rfl) | rfl | (simp only [List.length_drop, List.length_take]; rfl)) ?_
                      with_reducible refine (utfd_Step.calls k1 x204000_1 x204001_1 x204002_1 (bt ((rd_T22 y198 (ji3)).f0) x7_1) t204 t205 t206 t207 _ A17.out).mono ?_
                      rintro e w23 ⟨v208, rfl, ho0, hb⟩
                      refine ⟨_, rfl, ?_⟩
                      have n0_ := Aside0.mk (Kd.R_elder' (by (with_reducible repeat (first | apply Kd.R_alloc | apply Kd.R_drewN | apply Kd.R_drew)); exact HO_6.out) (Kd.R_base ho0) hb)
                      have n1_ := Aside0.mk (Kd.R_lower (Kd.R_new' ho0 (Kd.R_lt (by (with_reducible repeat (first | apply Kd.R_alloc | apply Kd.R_drewN | apply Kd.R_drew)); exact HO_6.out))) (below_size (by repeat (first | (with_reducible first | exact HB.out | apply below_alloc | apply pw_below_drewN | apply below_drew1 | refine below_set ?_ GE202.out | refine below_set ?_ GE203.out | refine below_set ?_ GE210.out) | exact HB.out))))
                      have n2_ := Aside0.mk (blk_below (g := gb202) (o := .cells #[.string ((rd_T22 y198 (ji3)).f0), .string ((rd_T22 y198 (ji3)).f1)] 22 (0, 0)) (by (with_reducible repeat (first | refine blk_drewN ?_ _ | refine blk_drew ?_ | refine blk_alloc ?_ _)); exact BK202.out) hb)
                      have n3_ := Aside0.mk (blk_below (g := gb203) (o := .cells #[.int .i64 x204000_1, .int .i64 x204001_1, .int .i64 x204002_1] 25 (0, 0)) (by (with_reducible repeat (first | refine blk_drewN ?_ _ | refine blk_drew ?_ | refine blk_alloc ?_ _)); exact BK203.out) hb)
                      have n4_ := Aside0.mk (blk_below (g := gb210) (o := .cells #[.int .i64 0, .int .i64 0, .int .i64 0] 25 (0, 0)) (by (with_reducible repeat (first | refine blk_drewN ?_ _ | refine blk_drew ?_ | refine blk_alloc ?_ _)); exact BK210.out) hb)
                      have n5_ := Aside0.mk (below_step (by repeat (first | (with_reducible first | exact HB.out | apply below_alloc | apply pw_below_drewN | apply below_drew1 | refine below_set ?_ GE202.out | refine below_set ?_ GE203.out | refine below_set ?_ GE210.out) | exact HB.out)) hb)
                      clear HO_6
                      clear BK202
                      clear BK203
                      clear BK210
                      clear HB
                      have HO_6 := n0_
                      have HO209 := n1_
                      have BK202 := n2_
                      have BK203 := n3_
                      have BK210 := n4_
                      have HB := n5_
                      clear n0_ n1_ n2_ n3_ n4_ n5_
                      (try clear hb)
                      (try clear hb2)
                      (try clear hk)
                      (try clear hi)
                      (try clear ho0)
                      refine hK.out _ _ ⟨(blk_cell BK203.out 0).trans rfl, (blk_cell BK203.out 1).trans rfl, (blk_cell BK203.out 2).trans rfl, (blk_cell BK202.out 0).trans rfl, (blk_cell BK202.out 1).trans rfl⟩ (fun hHeld => ?_)
                      clear hK K
                      refine norm_ (a' := ?_) ?_ ?_
                      rotate_left
                      · show Act.put _ (some 56) _ = _
                        simp only [Act.put, List.setIfInBounds_toArray, List.set_cons_zero, List.set_cons_succ, i64_w, i32_w]
                        rfl
                      refine pure_ (i := 6) (N := some 50) (v := ?_) (a' := ?_) #[true, true, true, true, true, true, true, false, false, true, false, false] rfl rfl (any_of HT_.out (by kernel_rfl)) (fun _ _ _ h => h) (Or.inl ⟨by rfl, ?_⟩) ?_ ?_
                      rotate_left
                      · intro w'
                        go_simp
                        with_reducible rfl
                      rotate_left
                      · simp only [Act.put, List.setIfInBounds_toArray, List.set_cons_zero, List.set_cons_succ, i64_w, i32_w]
                        rfl
                      refine pure_ (i := 7) (N := some 57) (v := ?_) (a' := ?_) #[true, true, true, true, true, true, true, true, false, true, false, false] rfl rfl (any_of HT_.out (by kernel_rfl)) (fun _ _ _ h => h) (Or.inl ⟨by rfl, ?_⟩) ?_ ?_
                      rotate_left
                      · intro w'
                        go_simp
                        with_reducible rfl
                      rotate_left
                      · simp only [Act.put, List.setIfInBounds_toArray, List.set_cons_zero, List.set_cons_succ, i64_w, i32_w]
                        rfl
                      refine pure_ (i := 8) (N := some 58) (v := ?_) (a' := ?_) #[true, true, true, true, true, true, true, true, true, true, false, false] rfl rfl (any_of HT_.out (by kernel_rfl)) (fun _ _ _ h => h) (Or.inl ⟨by rfl, ?_⟩) ?_ ?_
                      rotate_left
                      · intro w'
                        go_simp
                        with_reducible rfl
                      rotate_left
                      · simp only [Act.put, List.setIfInBounds_toArray, List.set_cons_zero, List.set_cons_succ, i64_w, i32_w]
                        rfl
                      exact norm_ (by simp only [putAll, Act.put, List.setIfInBounds_toArray, List.set_cons_zero, List.set_cons_succ]) (hCont (v208, gb210) _ ⟨hHeld, (by (with_reducible repeat (first | apply Kd.R_alloc | apply Kd.R_drewN | apply Kd.R_drew)); exact Kd.R_mono HO209.out (fun _ hk => hk.2)), (by (with_reducible repeat (first | apply Kd.R_alloc | apply Kd.R_drewN | apply Kd.R_drew)); exact Kd.R_mono HO_6.out (fun _ hk => hk.2)), (by (with_reducible repeat (first | refine blk_drewN ?_ _ | refine blk_drew ?_ | refine blk_alloc ?_ _)); exact BK202.out), (by (with_reducible repeat (first | refine blk_drewN ?_ _ | refine blk_drew ?_ | refine blk_alloc ?_ _)); exact BK203.out), (by (with_reducible repeat (first | refine blk_drewN ?_ _ | refine blk_drew ?_ | refine blk_alloc ?_ _)); exact BK210.out), GW210.out, GE210.out, NB202_210.out, NB210_202.out, NB203_210.out, NB210_203.out, (by repeat (first | (with_reducible first | exact HB.out | apply below_alloc | apply pw_below_drewN | apply below_drew1 | refine below_set ?_ GE202.out | refine below_set ?_ GE203.out | refine below_set ?_ GE210.out) | exact HB.out))⟩)
                  rintro ⟨v208, gb210⟩ w24 ⟨hS_, h0_, h1_, h2_, h3_, h4_, h5_, h6_, h7_, h8_, h9_, h10_, h11_⟩
                  have n0_ : Aside0 (Kd.R (Kd.int .i32) 21 w24 w.heap.size (fun k_ => some k_ ≠ (u6 : Value).ownBlock) v208 t207) := ⟨h0_⟩
                  have n1_ : Aside0 (Kd.R (Kd.int .i32) 21 w24 w.heap.size (fun k_ => some k_ ≠ (v208 : Value).ownBlock) u6 x6_1) := ⟨h1_⟩
                  have n2_ : Aside0 (w24.heap[gb202]? = some (.cells #[.string ((rd_T22 y198 (ji3)).f0), .string ((rd_T22 y198 (ji3)).f1)] 22 (0, 0))) := ⟨h2_⟩
                  have n3_ : Aside0 (w24.heap[gb203]? = some (.cells #[.int .i64 x204000_1, .int .i64 x204001_1, .int .i64 x204002_1] 25 (0, 0))) := ⟨h3_⟩
                  have n4_ : Aside0 (w24.heap[gb210]? = some (.cells #[.int .i64 0, .int .i64 0, .int .i64 0] 25 (0, 0))) := ⟨h4_⟩
                  have n5_ : Aside0 (w.heap.size ≤ gb210) := ⟨h5_⟩
                  have n6_ : Aside0 (w.heap.size ≤ gb210) := ⟨h6_⟩
                  have n7_ : Aside0 (gb202 ≠ gb210) := ⟨h7_⟩
                  have n8_ : Aside0 (gb210 ≠ gb202) := ⟨h8_⟩
                  have n9_ : Aside0 (gb203 ≠ gb210) := ⟨h9_⟩
                  have n10_ : Aside0 (gb210 ≠ gb203) := ⟨h10_⟩
                  have n11_ : Aside0 (Below w.heap.size w w24) := ⟨h11_⟩
                  clear HO_6
                  clear BK202
                  clear BK203
                  clear HB
                  clear h0_ h1_ h2_ h3_ h4_ h5_ h6_ h7_ h8_ h9_ h10_ h11_
                  have HO209 := n0_
                  have HO_6 := n1_
                  have BK202 := n2_
                  have BK203 := n3_
                  have BK210 := n4_
                  have GW210 := n5_
                  have GE210 := n6_
                  have NB202_210 := n7_
                  have NB210_202 := n8_
                  have NB203_210 := n9_
                  have NB210_203 := n10_
                  have HB := n11_
                  clear n0_ n1_ n2_ n3_ n4_ n5_ n6_ n7_ n8_ n9_ n10_ n11_
                  have hHeld : w24.cell? ⟨gb203, 0, none⟩ = some (.int .i64 x204000_1) ∧ w24.cell? ⟨gb203, 1, none⟩ = some (.int .i64 x204001_1) ∧ w24.cell? ⟨gb203, 2, none⟩ = some (.int .i64 x204002_1) ∧ w24.cell? ⟨gb202, 0, none⟩ = some (.string ((rd_T22 y198 (ji3)).f0)) ∧ w24.cell? ⟨gb202, 1, none⟩ = some (.string ((rd_T22 y198 (ji3)).f1)) := hS_
                  refine norm_ (a' := ?_) ?_ ?_
                  rotate_left
                  · simp only [putAll, Act.put, List.setIfInBounds_toArray, List.set_cons_zero, List.set_cons_succ]
                    rfl
                  refine one_ (i := 10) (N := none) #[true, true, true, true, true, true, true, true, true, true, true, false] rfl rfl (one_of HT_.out (by kernel_rfl)) (by decide) (fun K hK => ?_)
                  have hs25 : w24.cell? ⟨gb210, 0, none⟩ = some (.int .i64 0) := (blk_cell BK210.out 0).trans rfl
                  have hfs25 := blk_frozen BK210.out 0
                  have hns25_0 := NB202_210.out
                  have hns25_1 := NB203_210.out
                  have hms25_0 := NB210_202.out
                  have hms25_1 := NB210_203.out
                  have hs26 : w24.cell? ⟨gb210, 1, none⟩ = some (.int .i64 0) := (blk_cell BK210.out 1).trans rfl
                  have hfs26 := blk_frozen BK210.out 1
                  have hns26_0 := NB202_210.out
                  have hns26_1 := NB203_210.out
                  have hms26_0 := NB210_202.out
                  have hms26_1 := NB210_203.out
                  have hs27 : w24.cell? ⟨gb210, 2, none⟩ = some (.int .i64 0) := (blk_cell BK210.out 2).trans rfl
                  have hfs27 := blk_frozen BK210.out 2
                  have hns27_0 := NB202_210.out
                  have hns27_1 := NB203_210.out
                  have hms27_0 := NB210_202.out
                  have hms27_1 := NB210_203.out
                  refine skip_ (w1 := ?_) (by rfl) rfl ?_ ?_
                  rotate_left
                  · go_simp
                    rfl
                  refine hK.out _ _ ⟨((cell_far (p := ⟨gb210, _, none⟩) NB203_210.out _).trans (((cell_far (p := ⟨gb210, _, none⟩) NB203_210.out _).trans (((cell_far (p := ⟨gb210, _, none⟩) NB203_210.out _).trans (hHeld.1)))))), ((cell_far (p := ⟨gb210, _, none⟩) NB203_210.out _).trans (((cell_far (p := ⟨gb210, _, none⟩) NB203_210.out _).trans (((cell_far (p := ⟨gb210, _, none⟩) NB203_210.out _).trans (hHeld.2.1)))))), ((cell_far (p := ⟨gb210, _, none⟩) NB203_210.out _).trans (((cell_far (p := ⟨gb210, _, none⟩) NB203_210.out _).trans (((cell_far (p := ⟨gb210, _, none⟩) NB203_210.out _).trans (hHeld.2.2.1)))))), ((cell_far (p := ⟨gb210, _, none⟩) NB202_210.out _).trans (((cell_far (p := ⟨gb210, _, none⟩) NB202_210.out _).trans (((cell_far (p := ⟨gb210, _, none⟩) NB202_210.out _).trans (hHeld.2.2.2.1)))))), ((cell_far (p := ⟨gb210, _, none⟩) NB202_210.out _).trans (((cell_far (p := ⟨gb210, _, none⟩) NB202_210.out _).trans (((cell_far (p := ⟨gb210, _, none⟩) NB202_210.out _).trans (hHeld.2.2.2.2))))))⟩ (fun hHeld => ?_)
                  clear hK K
                  refine pure_ (i := 11) (N := some 9) (v := ?_) (a' := ?_) #[true, true, true, true, true, true, true, true, true, true, true, true] rfl rfl (any_of HT_.out (by kernel_rfl)) (fun _ _ _ h => h) (Or.inl ⟨by rfl, ?_⟩) ?_ ?_
                  rotate_left
                  · intro w'
                    go_simp
                    with_reducible rfl
                  rotate_left
                  · simp only [Act.put, List.setIfInBounds_toArray, List.set_cons_zero, List.set_cons_succ, i64_w, i32_w]
                    rfl
                  refine done_ (done_of HT_.out (by kernel_rfl)) ?_
                  try go_wp2
                  have n0_ : Aside0 (Kd.R (Kd.int .i32) 21 (((w24.setCell ⟨gb210, 0, none⟩ (.int .i64 t204)).setCell ⟨gb210, 1, none⟩ (.int .i64 t205)).setCell ⟨gb210, 2, none⟩ (.int .i64 t206)) w.heap.size (fun k_ => some k_ ≠ (v208 : Value).ownBlock) u6 x6_1) := ⟨by (with_reducible repeat (first | apply Kd.R_alloc | apply Kd.R_drewN | apply Kd.R_drew)); exact Kd.R_mono (Kd.R_far (p := ⟨gb210, 2, none⟩) (Kd.R_far (p := ⟨gb210, 1, none⟩) (Kd.R_far (p := ⟨gb210, 0, none⟩) (Kd.R_types HO_6.out BK210.out (by decide)) (fun _ hk => hk.2) (.int .i64 t204)) (fun _ hk => hk.2) (.int .i64 t205)) (fun _ hk => hk.2) (.int .i64 t206)) (fun _ hk => hk.1)⟩
                  have n1_ : Aside0 (Kd.R (Kd.int .i32) 21 (((w24.setCell ⟨gb210, 0, none⟩ (.int .i64 t204)).setCell ⟨gb210, 1, none⟩ (.int .i64 t205)).setCell ⟨gb210, 2, none⟩ (.int .i64 t206)) w.heap.size (fun k_ => some k_ ≠ (u6 : Value).ownBlock) v208 t207) := ⟨by (with_reducible repeat (first | apply Kd.R_alloc | apply Kd.R_drewN | apply Kd.R_drew)); exact Kd.R_mono (Kd.R_far (p := ⟨gb210, 2, none⟩) (Kd.R_far (p := ⟨gb210, 1, none⟩) (Kd.R_far (p := ⟨gb210, 0, none⟩) (Kd.R_types HO209.out BK210.out (by decide)) (fun _ hk => hk.2) (.int .i64 t204)) (fun _ hk => hk.2) (.int .i64 t205)) (fun _ hk => hk.2) (.int .i64 t206)) (fun _ hk => hk.1)⟩
                  have n2_ : Aside0 ((((w24.setCell ⟨gb210, 0, none⟩ (.int .i64 t204)).setCell ⟨gb210, 1, none⟩ (.int .i64 t205)).setCell ⟨gb210, 2, none⟩ (.int .i64 t206)).heap[gb202]? = some (.cells #[.string ((rd_T22 y198 (ji3)).f0), .string ((rd_T22 y198 (ji3)).f1)] 22 (0, 0))) := ⟨by (with_reducible repeat (first | refine blk_drewN ?_ _ | refine blk_drew ?_ | refine blk_alloc ?_ _)); refine blk_far ?_ NB202_210.out _; (with_reducible repeat (first | refine blk_drewN ?_ _ | refine blk_drew ?_ | refine blk_alloc ?_ _)); refine blk_far ?_ NB202_210.out _; (with_reducible repeat (first | refine blk_drewN ?_ _ | refine blk_drew ?_ | refine blk_alloc ?_ _)); refine blk_far ?_ NB202_210.out _; (with_reducible repeat (first | refine blk_drewN ?_ _ | refine blk_drew ?_ | refine blk_alloc ?_ _)); exact BK202.out⟩
                  have n3_ : Aside0 ((((w24.setCell ⟨gb210, 0, none⟩ (.int .i64 t204)).setCell ⟨gb210, 1, none⟩ (.int .i64 t205)).setCell ⟨gb210, 2, none⟩ (.int .i64 t206)).heap[gb203]? = some (.cells #[.int .i64 x204000_1, .int .i64 x204001_1, .int .i64 x204002_1] 25 (0, 0))) := ⟨by (with_reducible repeat (first | refine blk_drewN ?_ _ | refine blk_drew ?_ | refine blk_alloc ?_ _)); refine blk_far ?_ NB203_210.out _; (with_reducible repeat (first | refine blk_drewN ?_ _ | refine blk_drew ?_ | refine blk_alloc ?_ _)); refine blk_far ?_ NB203_210.out _; (with_reducible repeat (first | refine blk_drewN ?_ _ | refine blk_drew ?_ | refine blk_alloc ?_ _)); refine blk_far ?_ NB203_210.out _; (with_reducible repeat (first | refine blk_drewN ?_ _ | refine blk_drew ?_ | refine blk_alloc ?_ _)); exact BK203.out⟩
                  have n4_ : Aside0 ((((w24.setCell ⟨gb210, 0, none⟩ (.int .i64 t204)).setCell ⟨gb210, 1, none⟩ (.int .i64 t205)).setCell ⟨gb210, 2, none⟩ (.int .i64 t206)).heap[gb210]? = some (.cells #[.int .i64 t204, .int .i64 t205, .int .i64 t206] 25 (0, 0))) := ⟨by (with_reducible repeat (first | refine blk_drewN ?_ _ | refine blk_drew ?_ | refine blk_alloc ?_ _)); refine blk_put (cs := #[.int .i64 t204, .int .i64 t205, .int .i64 0]) ?_ 2 _ rfl; (with_reducible repeat (first | refine blk_drewN ?_ _ | refine blk_drew ?_ | refine blk_alloc ?_ _)); refine blk_put (cs := #[.int .i64 t204, .int .i64 0, .int .i64 0]) ?_ 1 _ rfl; (with_reducible repeat (first | refine blk_drewN ?_ _ | refine blk_drew ?_ | refine blk_alloc ?_ _)); refine blk_put (cs := #[.int .i64 0, .int .i64 0, .int .i64 0]) ?_ 0 _ rfl; (with_reducible repeat (first | refine blk_drewN ?_ _ | refine blk_drew ?_ | refine blk_alloc ?_ _)); exact BK210.out⟩
                  have n5_ : Aside0 (Below w.heap.size w (((w24.setCell ⟨gb210, 0, none⟩ (.int .i64 t204)).setCell ⟨gb210, 1, none⟩ (.int .i64 t205)).setCell ⟨gb210, 2, none⟩ (.int .i64 t206))) := ⟨by repeat (first | (with_reducible first | exact HB.out | apply below_alloc | apply pw_below_drewN | apply below_drew1 | refine below_set ?_ GE202.out | refine below_set ?_ GE203.out | refine below_set ?_ GE210.out) | exact HB.out)⟩
                  (try clear HO_6)
                  (try clear HO209)
                  (try clear BK202)
                  (try clear BK203)
                  (try clear BK210)
                  (try clear HB)
                  generalize (((w24.setCell ⟨gb210, 0, none⟩ (.int .i64 t204)).setCell ⟨gb210, 1, none⟩ (.int .i64 t205)).setCell ⟨gb210, 2, none⟩ (.int .i64 t206)) = w28 at n0_ n1_ n2_ n3_ n4_ n5_ ⊢
                  have HO_6 := n0_
                  have HO209 := n1_
                  have BK202 := n2_
                  have BK203 := n3_
                  have BK210 := n4_
                  have HB := n5_
                  clear n0_ n1_ n2_ n3_ n4_ n5_
                  have n0_ := Aside0.mk (Kd.R_drew HO_6.out)
                  have n1_ := Aside0.mk (Kd.R_drew HO209.out)
                  have n2_ := Aside0.mk (blk_drew BK202.out)
                  have n3_ := Aside0.mk (blk_drew BK203.out)
                  have n4_ := Aside0.mk (blk_drew BK210.out)
                  have n5_ := Aside0.mk (below_drew1 HB.out)
                  clear HO_6
                  clear HO209
                  clear BK202
                  clear BK203
                  clear BK210
                  clear HB
                  have HO_6 := n0_
                  have HO209 := n1_
                  have BK202 := n2_
                  have BK203 := n3_
                  have BK210 := n4_
                  have HB := n5_
                  clear n0_ n1_ n2_ n3_ n4_ n5_
                  obtain ⟨Ao31, co31, eo31⟩ := Kd.R_slice HO209.out
                  (first | subst eo31 | (injection eo31 with f1_ f2_ f3_; have f4_ := f1_.symm; have f5_ := f3_.symm; clear f1_ f2_ f3_; subst f4_; subst f5_))
                  refine start_ (n := 6) (S := fun w' => w'.cell? ⟨gb210, 0, none⟩ = some (.int .i64 t204) ∧ w'.cell? ⟨gb210, 1, none⟩ = some (.int .i64 t205) ∧ w'.cell? ⟨gb210, 2, none⟩ = some (.int .i64 t206)) (ds := []) #[false, false, false, false, false, false] (by kernel_rfl) rfl rfl ⟨(blk_cell BK210.out 0).trans rfl, (blk_cell BK210.out 1).trans rfl, (blk_cell BK210.out 2).trans rfl⟩ (fun hHeld => ?_)
                  generalize w28.drew = w29 at HO_6 HO209 BK202 BK203 BK210 HB hHeld ⊢
                  refine pure_ (i := 1) (N := some 60) (v := ?_) (a' := ?_) #[false, true, false, false, false, false] rfl rfl (by kernel_rfl) (fun _ _ _ h => h) (Or.inl ⟨by rfl, ?_⟩) ?_ ?_
                  rotate_left
                  · intro w'
                    go_simp
                    with_reducible rfl
                  rotate_left
                  · simp only [Act.put, List.setIfInBounds_toArray, List.set_cons_zero, List.set_cons_succ, i64_w, i32_w]
                    rfl
                  refine pure_ (i := 2) (N := some 61) (v := ?_) (a' := ?_) #[false, true, true, false, false, false] rfl rfl (by kernel_rfl) (fun _ _ _ h => h) (Or.inl ⟨by rfl, ?_⟩) ?_ ?_
                  rotate_left
                  · intro w'
                    go_simp
                    with_reducible rfl
                  rotate_left
                  · simp only [Act.put, List.setIfInBounds_toArray, List.set_cons_zero, List.set_cons_succ, i64_w, i32_w]
                    rfl
                  refine take_ (i := 0) (N := some 59) (v := ?_) (a' := ?_) #[true, true, true, false, false, false] rfl rfl (by kernel_rfl) (fun _ _ _ h => h) (Or.inl ⟨by rfl, ?_⟩) hHeld ?_ ?_
                  rotate_left
                  · rintro w' ⟨s0, s1, s2⟩
                    go_simp
                    with_reducible rfl
                  rotate_left
                  · simp only [Act.put, List.setIfInBounds_toArray, List.set_cons_zero, List.set_cons_succ, i64_w, i32_w]
                    rfl
                  refine one_ (i := 3) (N := some 62) #[true, true, true, true, false, false] rfl rfl (by kernel_rfl) (by decide) (fun K hK => ?_)
                  refine Kd.R_append_rows_step (Kd.int .i32) (w0 := w) w.heap.size (by rfl) (.tmp 60) (.tmp 61) 26 21 (.int .i32 0) 4 rfl Try.underlying26 info21 rfl (by decide) (by omega) u6 x6_1 t207 _ _ _ (fun k_ => some k_ ≠ (.slice Ao31 t207.length co31 : Value).ownBlock) (fun _ => False) rfl rfl ?aO ?aR (fun _ _ h => h) (fun _ h => h.elim) ?aF ?aB ?aS ?aL ?_
                  (case aR => repeat (first | exact (Kd.R_reads' HO209.out).2.2 | (with_reducible refine Kd.C_alloc ?_ _) | (with_reducible refine Kd.C_drewN ?_ _) | (with_reducible refine Kd.C_drew ?_)))
                  (case aB => exact (by repeat (first | (with_reducible first | exact HB.out | apply below_alloc | apply pw_below_drewN | apply below_drew1 | refine below_set ?_ GE202.out | refine below_set ?_ GE203.out | refine below_set ?_ GE210.out) | exact HB.out)))
                  (case aF => exact (fun k_ hk => Kd.fresh' (Kd.R_lt (by (with_reducible repeat (first | apply Kd.R_alloc | apply Kd.R_drewN | apply Kd.R_drew)); exact HO209.out)) k_ hk))
                  (case aO => exact (by (with_reducible repeat (first | apply Kd.R_alloc | apply Kd.R_drewN | apply Kd.R_drew)); exact HO_6.out))
                  (case aS => exact (below_size (by repeat (first | (with_reducible first | exact HB.out | apply below_alloc | apply pw_below_drewN | apply below_drew1 | refine below_set ?_ GE202.out | refine below_set ?_ GE203.out | refine below_set ?_ GE210.out) | exact HB.out))))
                  (case aL => have := LMc18.out; omega)
                  intro v212 w30 ho hb hg hat
                  rw [← Ny211.out] at ho
                  have n0_ := Aside0.mk (blk_grown (g := gb202) (o := .cells #[.string ((rd_T22 y198 (ji3)).f0), .string ((rd_T22 y198 (ji3)).f1)] 22 (0, 0)) (by (with_reducible repeat (first | refine blk_drewN ?_ _ | refine blk_drew ?_ | refine blk_alloc ?_ _)); exact BK202.out) hg (Kd.R_ne HO_6.out BK202.out (by decide)))
                  have n1_ := Aside0.mk (blk_grown (g := gb203) (o := .cells #[.int .i64 x204000_1, .int .i64 x204001_1, .int .i64 x204002_1] 25 (0, 0)) (by (with_reducible repeat (first | refine blk_drewN ?_ _ | refine blk_drew ?_ | refine blk_alloc ?_ _)); exact BK203.out) hg (Kd.R_ne HO_6.out BK203.out (by decide)))
                  have n2_ := Aside0.mk (Kd.R_after (ok := (fun _ => True)) (by (with_reducible repeat (first | apply Kd.R_alloc | apply Kd.R_drewN | apply Kd.R_drew)); exact Kd.R_mono HO209.out (fun _ hk => ⟨trivial, hk⟩)) hg hat)
                  have n3_ := Aside0.mk (blk_grown (g := gb210) (o := .cells #[.int .i64 t204, .int .i64 t205, .int .i64 t206] 25 (0, 0)) (by (with_reducible repeat (first | refine blk_drewN ?_ _ | refine blk_drew ?_ | refine blk_alloc ?_ _)); exact BK210.out) hg (Kd.R_ne HO_6.out BK210.out (by decide)))
                  have n4_ := Aside0.mk (hb)
                  have n5_ := Aside0.mk (ho)
                  clear BK202
                  clear BK203
                  clear HO209
                  clear BK210
                  clear HB
                  clear HO_6
                  have BK202 := n0_
                  have BK203 := n1_
                  have HO209 := n2_
                  have BK210 := n3_
                  have HB := n4_
                  have HO213 := n5_
                  clear n0_ n1_ n2_ n3_ n4_ n5_
                  clear ho hb hg hat
                  refine hK.out _ _ ⟨(blk_cell BK210.out 0).trans rfl, (blk_cell BK210.out 1).trans rfl, (blk_cell BK210.out 2).trans rfl⟩ (fun hHeld => ?_)
                  clear hK K
                  refine norm_ (a' := ?_) ?_ ?_
                  rotate_left
                  · show Act.put _ (some 62) _ = _
                    simp only [Act.put, List.setIfInBounds_toArray, List.set_cons_zero, List.set_cons_succ, i64_w, i32_w]
                    rfl
                  refine one_ (i := 4) (N := none) #[true, true, true, true, true, false] rfl rfl (by kernel_rfl) (by decide) (fun K hK => ?_)
                  have hs32 : w30.cell? ⟨gb203, 0, none⟩ = some (.int .i64 x204000_1) := (blk_cell BK203.out 0).trans rfl
                  have hfs32 := blk_frozen BK203.out 0
                  have hns32_0 := NB202_203.out
                  have hns32_2 := NB210_203.out
                  have hms32_0 := NB203_202.out
                  have hms32_2 := NB203_210.out
                  have hs33 : w30.cell? ⟨gb203, 1, none⟩ = some (.int .i64 x204001_1) := (blk_cell BK203.out 1).trans rfl
                  have hfs33 := blk_frozen BK203.out 1
                  have hns33_0 := NB202_203.out
                  have hns33_2 := NB210_203.out
                  have hms33_0 := NB203_202.out
                  have hms33_2 := NB203_210.out
                  have hs34 : w30.cell? ⟨gb203, 2, none⟩ = some (.int .i64 x204002_1) := (blk_cell BK203.out 2).trans rfl
                  have hfs34 := blk_frozen BK203.out 2
                  have hns34_0 := NB202_203.out
                  have hns34_2 := NB210_203.out
                  have hms34_0 := NB203_202.out
                  have hms34_2 := NB203_210.out
                  refine skip_ (w1 := ?_) (by rfl) rfl ?_ ?_
                  rotate_left
                  · go_simp
                    rfl
                  refine hK.out _ _ ⟨((cell_far (p := ⟨gb203, _, none⟩) NB210_203.out _).trans (((cell_far (p := ⟨gb203, _, none⟩) NB210_203.out _).trans (((cell_far (p := ⟨gb203, _, none⟩) NB210_203.out _).trans (hHeld.1)))))), ((cell_far (p := ⟨gb203, _, none⟩) NB210_203.out _).trans (((cell_far (p := ⟨gb203, _, none⟩) NB210_203.out _).trans (((cell_far (p := ⟨gb203, _, none⟩) NB210_203.out _).trans (hHeld.2.1)))))), ((cell_far (p := ⟨gb203, _, none⟩) NB210_203.out _).trans (((cell_far (p := ⟨gb203, _, none⟩) NB210_203.out _).trans (((cell_far (p := ⟨gb203, _, none⟩) NB210_203.out _).trans (hHeld.2.2))))))⟩ (fun hHeld => ?_)
                  clear hK K
                  refine pure_ (i := 5) (N := some 6) (v := ?_) (a' := ?_) #[true, true, true, true, true, true] rfl rfl (by kernel_rfl) (fun _ _ _ h => h) (Or.inl ⟨by rfl, ?_⟩) ?_ ?_
                  rotate_left
                  · intro w'
                    go_simp
                    with_reducible rfl
                  rotate_left
                  · simp only [Act.put, List.setIfInBounds_toArray, List.set_cons_zero, List.set_cons_succ, i64_w, i32_w]
                    rfl
                  refine done_ (by kernel_rfl) ?_
                  try go_wp2
                  go_roundg k1
                  case measure => have := HK1.out; omega
                  case rel => exact ⟨(y211), (wrap64 (x7_1 + 1)), (t204), (t205), (t206), (by first | rfl | (simp; done) | (simp [*]; done)), H', ⟨by have := HK1.out; omega⟩, ⟨by (with_reducible repeat (first | apply Kd.R_alloc | apply Kd.R_drewN | apply Kd.R_drew)); exact Kd.R_mono (Kd.R_far (p := ⟨gb203, 2, none⟩) (Kd.R_far (p := ⟨gb203, 1, none⟩) (Kd.R_far (p := ⟨gb203, 0, none⟩) (Kd.R_types HO213.out BK203.out (by decide)) (fun _ hk => hk.2) (.int .i64 t204)) (fun _ hk => hk.2) (.int .i64 t205)) (fun _ hk => hk.2) (.int .i64 t206)) (fun _ hk => trivial)⟩, ⟨by (with_reducible repeat (first | refine blk_drewN ?_ _ | refine blk_drew ?_ | refine blk_alloc ?_ _)); refine blk_far ?_ NB202_203.out _; (with_reducible repeat (first | refine blk_drewN ?_ _ | refine blk_drew ?_ | refine blk_alloc ?_ _)); refine blk_far ?_ NB202_203.out _; (with_reducible repeat (first | refine blk_drewN ?_ _ | refine blk_drew ?_ | refine blk_alloc ?_ _)); refine blk_far ?_ NB202_203.out _; (with_reducible repeat (first | refine blk_drewN ?_ _ | refine blk_drew ?_ | refine blk_alloc ?_ _)); exact BK202.out⟩, ⟨by (with_reducible repeat (first | refine blk_drewN ?_ _ | refine blk_drew ?_ | refine blk_alloc ?_ _)); refine blk_put (cs := #[.int .i64 t204, .int .i64 t205, .int .i64 x204002_1]) ?_ 2 _ rfl; (with_reducible repeat (first | refine blk_drewN ?_ _ | refine blk_drew ?_ | refine blk_alloc ?_ _)); refine blk_put (cs := #[.int .i64 t204, .int .i64 x204001_1, .int .i64 x204002_1]) ?_ 1 _ rfl; (with_reducible repeat (first | refine blk_drewN ?_ _ | refine blk_drew ?_ | refine blk_alloc ?_ _)); refine blk_put (cs := #[.int .i64 x204000_1, .int .i64 x204001_1, .int .i64 x204002_1]) ?_ 0 _ rfl; (with_reducible repeat (first | refine blk_drewN ?_ _ | refine blk_drew ?_ | refine blk_alloc ?_ _)); exact BK203.out⟩, ⟨by repeat (first | (with_reducible first | exact HB.out | apply below_alloc | apply pw_below_drewN | apply below_drew1 | refine below_set ?_ GE202.out | refine below_set ?_ GE203.out | refine below_set ?_ GE210.out) | exact HB.out)⟩⟩
                · rw [if_neg c18] at H
                  exact absurd H (by simp)
              · rw [if_neg c15] at H
                exact absurd H (by simp)
            · rw [if_neg c14] at H
              have c14b0 : decide (x7_1 < (((rd_T22 y198 (ji3)).f0).size : Int)) = false := decide_eq_false c14
              clear c14
              replace H := Option.bind_eq_some_iff.mp H
              obtain ⟨t214, A350, H⟩ := H
              replace H : (if x6_1.length + t214.length < 35184372088832 then (if (runesBytes (x6_1 ++ t214)).toList = ((rd_T22 y198 (ji3)).f1).toList then ((polyptychlaw1_awake.f k1).bind fun t220 => (some t220)) else (some false)) else (none)) = some r := H
              have A35 := Aside0.mk A350
              clear A350
              by_cases c36 : x6_1.length + t214.length < 35184372088832
              · rw [if_pos c36] at H
                have LMc36 := Aside0.mk c36
                clear c36
                obtain ⟨y217, hy217⟩ : ∃ y_ : List Int, y_ = (x6_1 ++ t214) := ⟨_, rfl⟩
                replace H : (if (runesBytes y217).toList = ((rd_T22 y198 (ji3)).f1).toList then ((polyptychlaw1_awake.f k1).bind fun t220 => (some t220)) else (some false)) = some r := by first | (rw [hy217]; with_reducible exact H) | (have H2_ := (Option.bind_some _ _).symm.trans H; rw [hy217]; with_reducible exact H2_) | (have H2_ := (Option.bind_some _ _).symm.trans H; with_reducible exact H2_) | with_reducible exact H | (rw [hy217]; exact H) | exact H
                have Ny217 := Aside0.mk hy217
                clear hy217
                by_cases c37 : (runesBytes y217).toList = ((rd_T22 y198 (ji3)).f1).toList
                · rw [if_pos c37] at H
                  have c37b0 : ((runesBytes y217).toList == ((rd_T22 y198 (ji3)).f1).toList) = true := beq_iff_eq.mpr c37
                  have c37b1 : ((runesBytes y217).toList != ((rd_T22 y198 (ji3)).f1).toList) = false := bne_eq_false_iff_eq.mpr c37
                  clear c37
                  replace H := Option.bind_eq_some_iff.mp H
                  obtain ⟨t220, A380, H⟩ := H
                  replace H : (some t220) = some r := H
                  have A38 := Aside0.mk A380
                  clear A380
                  obtain rfl := Option.some.inj H
                  have hnb39 := NB202_203.out
                  have hnc39 := NB203_202.out
                  have hcz40_0 : wr.cell? ⟨gb202, 0, none⟩ = some (.string ((rd_T22 y198 (ji3)).f0)) := (blk_cell BK202.out 0).trans rfl
                  have hcz40_1 : wr.cell? ⟨gb202, 1, none⟩ = some (.string ((rd_T22 y198 (ji3)).f1)) := (blk_cell BK202.out 1).trans rfl
                  have hfz40_0 := blk_frozen BK202.out 0
                  have hfz40_1 := blk_frozen BK202.out 1
                  try go_wp2
                  have n0_ := Aside0.mk (Kd.R_drew HO_6.out)
                  have n1_ := Aside0.mk (blk_drew BK202.out)
                  have n2_ := Aside0.mk (blk_drew BK203.out)
                  have n3_ := Aside0.mk (below_drew1 HB.out)
                  clear HO_6
                  clear BK202
                  clear BK203
                  clear HB
                  have HO_6 := n0_
                  have BK202 := n1_
                  have BK203 := n2_
                  have HB := n3_
                  clear n0_ n1_ n2_ n3_
                  refine start_ (n := 12) (S := fun w' => w'.cell? ⟨gb203, 0, none⟩ = some (.int .i64 x204000_1) ∧ w'.cell? ⟨gb203, 1, none⟩ = some (.int .i64 x204001_1) ∧ w'.cell? ⟨gb203, 2, none⟩ = some (.int .i64 x204002_1) ∧ w'.cell? ⟨gb202, 0, none⟩ = some (.string ((rd_T22 y198 (ji3)).f0)) ∧ w'.cell? ⟨gb202, 1, none⟩ = some (.string ((rd_T22 y198 (ji3)).f1))) (ds := []) #[false, false, false, false, false, false, false, false, false, false, false, false] (by kernel_rfl) rfl rfl ⟨(blk_cell BK203.out 0).trans rfl, (blk_cell BK203.out 1).trans rfl, (blk_cell BK203.out 2).trans rfl, (blk_cell BK202.out 0).trans rfl, (blk_cell BK202.out 1).trans rfl⟩ (fun hHeld => ?_); refine with_tabW polyptychlaw1_UtfdForms.tab10 polyptychlaw1_UtfdForms.bits10 (fun HT_ HW_ => ?_)
                  generalize wr.drew = w41 at HO_6 BK202 BK203 HB hHeld ⊢
                  refine pure_ (i := 0) (N := some 63) (v := ?_) (a' := ?_) #[true, false, false, false, false, false, false, false, false, false, false, false] rfl rfl (any_of HT_.out (by kernel_rfl)) (fun _ _ _ h => h) (Or.inl ⟨by rfl, ?_⟩) ?_ ?_
                  rotate_left
                  · intro w'
                    go_simp
                    with_reducible rfl
                  rotate_left
                  · simp only [Act.put, List.setIfInBounds_toArray, List.set_cons_zero, List.set_cons_succ, i64_w, i32_w]
                    rfl
                  refine pure_ (i := 5) (N := some 68) (v := ?_) (a' := ?_) #[true, false, false, false, false, true, false, false, false, false, false, false] rfl rfl (any_of HT_.out (by kernel_rfl)) (fun _ _ _ h => h) (Or.inl ⟨by rfl, ?_⟩) ?_ ?_
                  rotate_left
                  · intro w'
                    go_simp
                    with_reducible rfl
                  rotate_left
                  · simp only [Act.put, List.setIfInBounds_toArray, List.set_cons_zero, List.set_cons_succ, i64_w, i32_w]
                    rfl
                  refine take_ (i := 1) (N := some 64) (v := ?_) (a' := ?_) #[true, true, false, false, false, true, false, false, false, false, false, false] rfl rfl (take_ofW HT_.out HW_.out (by kernel_rfl)) (fun _ _ _ h => h) (Or.inl ⟨by rfl, ?_⟩) hHeld ?_ ?_
                  rotate_left
                  · rintro w' ⟨s0, s1, s2, s3, s4⟩
                    go_simp
                    with_reducible rfl
                  rotate_left
                  · simp only [Act.put, List.setIfInBounds_toArray, List.set_cons_zero, List.set_cons_succ, i64_w, i32_w]
                    rfl
                  refine take_ (i := 6) (N := some 69) (v := ?_) (a' := ?_) #[true, true, false, false, false, true, true, false, false, false, false, false] rfl rfl (take_ofW HT_.out HW_.out (by kernel_rfl)) (fun _ _ _ h => h) (Or.inl ⟨by rfl, ?_⟩) hHeld ?_ ?_
                  rotate_left
                  · rintro w' ⟨s0, s1, s2, s3, s4⟩
                    go_simp
                    with_reducible rfl
                  rotate_left
                  · simp only [Act.put, List.setIfInBounds_toArray, List.set_cons_zero, List.set_cons_succ, i64_w, i32_w]
                    rfl
                  refine one_ (i := 2) (N := some 65) #[true, true, true, false, false, true, true, false, false, false, false, false] rfl rfl (one_of HT_.out (by kernel_rfl)) (by decide) (fun K hK => ?_)
                  refine goes_ Try.func8 (by kernel_rfl) rfl #[.agg #[.int .i64 x204000_1, .int .i64 x204001_1, .int .i64 x204002_1]] (by rfl) rfl rfl (by (try simp only [List.map_toArray, List.map_cons, List.map_nil]); first | done | rfl | (simp only [List.length_drop, List.length_take]; rfl)) ?_
                  with_reducible refine (utfd_End.calls x204000_1 x204001_1 x204002_1 t214 _ A35.out).mono ?_
                  rintro e w42 ⟨v215, rfl, ho0, hb⟩
                  refine ⟨_, rfl, ?_⟩
                  have n0_ := Aside0.mk (Kd.R_elder' (by (with_reducible repeat (first | apply Kd.R_alloc | apply Kd.R_drewN | apply Kd.R_drew)); exact HO_6.out) (Kd.R_base ho0) hb)
                  have n1_ := Aside0.mk (Kd.R_lower (Kd.R_new' ho0 (Kd.R_lt (by (with_reducible repeat (first | apply Kd.R_alloc | apply Kd.R_drewN | apply Kd.R_drew)); exact HO_6.out))) (below_size (by repeat (first | (with_reducible first | exact HB.out | apply below_alloc | apply pw_below_drewN | apply below_drew1 | refine below_set ?_ GE202.out | refine below_set ?_ GE203.out) | exact HB.out))))
                  have n2_ := Aside0.mk (blk_below (g := gb202) (o := .cells #[.string ((rd_T22 y198 (ji3)).f0), .string ((rd_T22 y198 (ji3)).f1)] 22 (0, 0)) (by (with_reducible repeat (first | refine blk_drewN ?_ _ | refine blk_drew ?_ | refine blk_alloc ?_ _)); exact BK202.out) hb)
                  have n3_ := Aside0.mk (blk_below (g := gb203) (o := .cells #[.int .i64 x204000_1, .int .i64 x204001_1, .int .i64 x204002_1] 25 (0, 0)) (by (with_reducible repeat (first | refine blk_drewN ?_ _ | refine blk_drew ?_ | refine blk_alloc ?_ _)); exact BK203.out) hb)
                  have n4_ := Aside0.mk (below_step (by repeat (first | (with_reducible first | exact HB.out | apply below_alloc | apply pw_below_drewN | apply below_drew1 | refine below_set ?_ GE202.out | refine below_set ?_ GE203.out) | exact HB.out)) hb)
                  clear HO_6
                  clear BK202
                  clear BK203
                  clear HB
                  have HO_6 := n0_
                  have HO216 := n1_
                  have BK202 := n2_
                  have BK203 := n3_
                  have HB := n4_
                  clear n0_ n1_ n2_ n3_ n4_
                  (try clear hb)
                  (try clear hb2)
                  (try clear hk)
                  (try clear hi)
                  (try clear ho0)
                  obtain ⟨Ao44, co44, eo44⟩ := Kd.R_slice HO216.out
                  (first | subst eo44 | (injection eo44 with f1_ f2_ f3_; have f4_ := f1_.symm; have f5_ := f3_.symm; clear f1_ f2_ f3_; subst f4_; subst f5_))
                  refine hK.out _ _ ⟨(blk_cell BK203.out 0).trans rfl, (blk_cell BK203.out 1).trans rfl, (blk_cell BK203.out 2).trans rfl, (blk_cell BK202.out 0).trans rfl, (blk_cell BK202.out 1).trans rfl⟩ (fun hHeld => ?_)
                  clear hK K
                  refine norm_ (a' := ?_) ?_ ?_
                  rotate_left
                  · show Act.put _ (some 65) _ = _
                    simp only [Act.put, List.setIfInBounds_toArray, List.set_cons_zero, List.set_cons_succ, i64_w, i32_w]
                    rfl
                  refine one_ (i := 3) (N := some 66) #[true, true, true, true, false, true, true, false, false, false, false, false] rfl rfl (one_of HT_.out (by kernel_rfl)) (by decide) (fun K hK => ?_)
                  refine Kd.R_append_rows_step (Kd.int .i32) (w0 := w) w.heap.size (by rfl) (.tmp 63) (.tmp 65) 26 21 (.int .i32 0) 4 rfl Try.underlying26 info21 rfl (by decide) (by omega) u6 x6_1 t214 _ _ _ (fun k_ => some k_ ≠ (.slice Ao44 t214.length co44 : Value).ownBlock) (fun _ => False) rfl rfl ?aO ?aR (fun _ _ h => h) (fun _ h => h.elim) ?aF ?aB ?aS ?aL ?_
                  (case aR => repeat (first | exact (Kd.R_reads' HO216.out).2.2 | (with_reducible refine Kd.C_alloc ?_ _) | (with_reducible refine Kd.C_drewN ?_ _) | (with_reducible refine Kd.C_drew ?_)))
                  (case aB => exact (by repeat (first | (with_reducible first | exact HB.out | apply below_alloc | apply pw_below_drewN | apply below_drew1 | refine below_set ?_ GE202.out | refine below_set ?_ GE203.out) | exact HB.out)))
                  (case aF => exact (fun k_ hk => Kd.fresh' (Kd.R_lt (by (with_reducible repeat (first | apply Kd.R_alloc | apply Kd.R_drewN | apply Kd.R_drew)); exact HO216.out)) k_ hk))
                  (case aO => exact (by (with_reducible repeat (first | apply Kd.R_alloc | apply Kd.R_drewN | apply Kd.R_drew)); exact Kd.R_mono HO_6.out (fun _ hk => hk.2)))
                  (case aS => exact (below_size (by repeat (first | (with_reducible first | exact HB.out | apply below_alloc | apply pw_below_drewN | apply below_drew1 | refine below_set ?_ GE202.out | refine below_set ?_ GE203.out) | exact HB.out))))
                  (case aL => have := LMc36.out; omega)
                  intro v218 w43 ho hb hg hat
                  rw [← Ny217.out] at ho
                  have n0_ := Aside0.mk (blk_grown (g := gb202) (o := .cells #[.string ((rd_T22 y198 (ji3)).f0), .string ((rd_T22 y198 (ji3)).f1)] 22 (0, 0)) (by (with_reducible repeat (first | refine blk_drewN ?_ _ | refine blk_drew ?_ | refine blk_alloc ?_ _)); exact BK202.out) hg (Kd.R_ne HO_6.out BK202.out (by decide)))
                  have n1_ := Aside0.mk (blk_grown (g := gb203) (o := .cells #[.int .i64 x204000_1, .int .i64 x204001_1, .int .i64 x204002_1] 25 (0, 0)) (by (with_reducible repeat (first | refine blk_drewN ?_ _ | refine blk_drew ?_ | refine blk_alloc ?_ _)); exact BK203.out) hg (Kd.R_ne HO_6.out BK203.out (by decide)))
                  have n2_ := Aside0.mk (Kd.R_after (ok := (fun _ => True)) (by (with_reducible repeat (first | apply Kd.R_alloc | apply Kd.R_drewN | apply Kd.R_drew)); exact HO216.out) hg hat)
                  have n3_ := Aside0.mk (hb)
                  have n4_ := Aside0.mk (ho)
                  clear BK202
                  clear BK203
                  clear HO216
                  clear HB
                  clear HO_6
                  have BK202 := n0_
                  have BK203 := n1_
                  have HO216 := n2_
                  have HB := n3_
                  have HO219 := n4_
                  clear n0_ n1_ n2_ n3_ n4_
                  clear ho hb hg hat
                  refine hK.out _ _ ⟨(blk_cell BK203.out 0).trans rfl, (blk_cell BK203.out 1).trans rfl, (blk_cell BK203.out 2).trans rfl, (blk_cell BK202.out 0).trans rfl, (blk_cell BK202.out 1).trans rfl⟩ (fun hHeld => ?_)
                  clear hK K
                  refine norm_ (a' := ?_) ?_ ?_
                  rotate_left
                  · show Act.put _ (some 66) _ = _
                    simp only [Act.put, List.setIfInBounds_toArray, List.set_cons_zero, List.set_cons_succ, i64_w, i32_w]
                    rfl
                  refine one_ (i := 4) (N := some 67) #[true, true, true, true, true, true, true, false, false, false, false, false] rfl rfl (one_of HT_.out (by kernel_rfl)) (by decide) (fun K hK => ?_)
                  have hcv45 := own_runes (P := Try.prog) Try.underlying26 Try.underlying21 Try.underlying9 (Kd.own_of_R HO219.out)
                  refine value_ (w1 := ?_) (v := ?_) (by rfl) rfl ?_ ?_
                  rotate_left 2
                  · go_simp
                    constructor
                    · rfl
                    · rfl
                  clear hcv45
                  refine hK.out _ _ ⟨(blk_cell BK203.out 0).trans rfl, (blk_cell BK203.out 1).trans rfl, (blk_cell BK203.out 2).trans rfl, (blk_cell BK202.out 0).trans rfl, (blk_cell BK202.out 1).trans rfl⟩ (fun hHeld => ?_)
                  clear hK K
                  refine norm_ (a' := ?_) ?_ ?_
                  rotate_left
                  · show Act.put _ (some 67) _ = _
                    simp only [Act.put, List.setIfInBounds_toArray, List.set_cons_zero, List.set_cons_succ, i64_w, i32_w]
                    rfl
                  refine pure_ (i := 7) (N := some 70) (v := ?_) (a' := ?_) #[true, true, true, true, true, true, true, true, false, false, false, false] rfl rfl (any_of HT_.out (by kernel_rfl)) (fun _ _ _ h => h) (Or.inl ⟨by rfl, ?_⟩) ?_ ?_
                  rotate_left
                  · intro w'
                    go_simp
                    with_reducible rfl
                  rotate_left
                  · simp only [Act.put, List.setIfInBounds_toArray, List.set_cons_zero, List.set_cons_succ, i64_w, i32_w]
                    rfl
                  refine pure_ (i := 8) (N := some 71) (v := ?_) (a' := ?_) #[true, true, true, true, true, true, true, true, true, false, false, false] rfl rfl (any_of HT_.out (by kernel_rfl)) (fun _ _ _ h => h) (Or.inl ⟨by rfl, ?_⟩) ?_ ?_
                  rotate_left
                  · intro w'
                    go_simp
                    with_reducible rfl
                  rotate_left
                  · simp only [Act.put, List.setIfInBounds_toArray, List.set_cons_zero, List.set_cons_succ, i64_w, i32_w]
                    rfl
                  refine one_ (i := 9) (N := some 72) #[true, true, true, true, true, true, true, true, true, true, false, false] rfl rfl (one_of HT_.out (by kernel_rfl)) (by decide) (fun K hK => ?_)
                  refine goes_ Try.func9 (by kernel_rfl) rfl #[] (by rfl) rfl rfl (by (try simp only [List.map_toArray, List.map_cons, List.map_nil]); first | done | rfl | (simp only [List.length_drop, List.length_take]; rfl)) ?_
                  with_reducible refine (polyptychlaw1_awake.calls k1  t220 _ A38.out).mono ?_
                  rintro e w46 ⟨rfl, hb⟩
                  refine ⟨_, rfl, ?_⟩
                  have n0_ := Aside0.mk (Kd.R_below (by (with_reducible repeat (first | apply Kd.R_alloc | apply Kd.R_drewN | apply Kd.R_drew)); exact HO216.out) hb)
                  have n1_ := Aside0.mk (Kd.R_below (by (with_reducible repeat (first | apply Kd.R_alloc | apply Kd.R_drewN | apply Kd.R_drew)); exact HO219.out) hb)
                  have n2_ := Aside0.mk (blk_below (g := gb202) (o := .cells #[.string ((rd_T22 y198 (ji3)).f0), .string ((rd_T22 y198 (ji3)).f1)] 22 (0, 0)) (by (with_reducible repeat (first | refine blk_drewN ?_ _ | refine blk_drew ?_ | refine blk_alloc ?_ _)); exact BK202.out) hb)
                  have n3_ := Aside0.mk (blk_below (g := gb203) (o := .cells #[.int .i64 x204000_1, .int .i64 x204001_1, .int .i64 x204002_1] 25 (0, 0)) (by (with_reducible repeat (first | refine blk_drewN ?_ _ | refine blk_drew ?_ | refine blk_alloc ?_ _)); exact BK203.out) hb)
                  have n4_ := Aside0.mk (below_step (by repeat (first | (with_reducible first | exact HB.out | apply below_alloc | apply pw_below_drewN | apply below_drew1 | refine below_set ?_ GE202.out | refine below_set ?_ GE203.out) | exact HB.out)) hb)
                  clear HO216
                  clear HO219
                  clear BK202
                  clear BK203
                  clear HB
                  have HO216 := n0_
                  have HO219 := n1_
                  have BK202 := n2_
                  have BK203 := n3_
                  have HB := n4_
                  clear n0_ n1_ n2_ n3_ n4_
                  (try clear hb)
                  (try clear hb2)
                  (try clear hk)
                  (try clear hi)
                  refine hK.out _ _ ⟨(blk_cell BK203.out 0).trans rfl, (blk_cell BK203.out 1).trans rfl, (blk_cell BK203.out 2).trans rfl, (blk_cell BK202.out 0).trans rfl, (blk_cell BK202.out 1).trans rfl⟩ (fun hHeld => ?_)
                  clear hK K
                  refine norm_ (a' := ?_) ?_ ?_
                  rotate_left
                  · show Act.put _ (some 72) _ = _
                    simp only [Act.put, List.setIfInBounds_toArray, List.set_cons_zero, List.set_cons_succ, i64_w, i32_w]
                    rfl
                  refine pure_ (i := 10) (N := some 73) (v := ?_) (a' := ?_) #[true, true, true, true, true, true, true, true, true, true, true, false] rfl rfl (any_of HT_.out (by kernel_rfl)) (fun _ _ _ h => h) (Or.inl ⟨by rfl, ?_⟩) ?_ ?_
                  rotate_left
                  · intro w'
                    go_simp
                    with_reducible rfl
                  rotate_left
                  · simp only [Act.put, List.setIfInBounds_toArray, List.set_cons_zero, List.set_cons_succ, i64_w, i32_w]
                    rfl
                  refine pure_ (i := 11) (N := some 2) (v := ?_) (a' := ?_) #[true, true, true, true, true, true, true, true, true, true, true, true] rfl rfl (any_of HT_.out (by kernel_rfl)) (fun _ _ _ h => h) (Or.inl ⟨by rfl, ?_⟩) ?_ ?_
                  rotate_left
                  · intro w'
                    go_simp
                    with_reducible rfl
                  rotate_left
                  · simp only [Act.put, List.setIfInBounds_toArray, List.set_cons_zero, List.set_cons_succ, i64_w, i32_w]
                    rfl
                  refine done_ (done_of HT_.out (by kernel_rfl)) ?_
                  try go_wp2
                  go_ret
                  exact ⟨by first | rfl | (simp [errW_none, errW_some] <;> rfl) | (simp only [← hji3]; first | rfl | (simp [errW_none, errW_some] <;> rfl)) | (simp [*, errW_none, errW_some] <;> rfl), by repeat (first | (with_reducible first | exact HB.out | apply below_alloc | apply pw_below_drewN | apply below_drew1 | refine below_set ?_ GE202.out | refine below_set ?_ GE203.out) | exact HB.out)⟩
                · rw [if_neg c37] at H
                  have c37b0 : ((runesBytes y217).toList == ((rd_T22 y198 (ji3)).f1).toList) = false := beq_eq_false_iff_ne.mpr c37
                  have c37b1 : ((runesBytes y217).toList != ((rd_T22 y198 (ji3)).f1).toList) = true := bne_iff_ne.mpr c37
                  exact absurd ((Option.some.inj H).trans hT_.out) (by decide)
              · rw [if_neg c36] at H
                exact absurd H (by simp)
      · rw [if_neg c5] at H
        exact absurd H (by simp)
    · rw [if_neg c4] at H
      exact absurd H (by simp)

/-- THE ONE PURE STATEMENT of polyptychlaw1_UtfdForms: yours. -/
def polyptychlaw1_UtfdForms.Pure : Prop := ∀ (a0 : Int), (Lit.int .i64 a0).wf = true → ∃ k, polyptychlaw1_UtfdForms.f k a0 = some true
theorem polyptychlaw1_UtfdForms.walk (P : polyptychlaw1_UtfdForms.Pure) (a0 : Int) (w : World) (w0 : (Lit.int .i64 a0).wf = true) :
    Calls Try.prog 3 #[.int .i64 a0] w fun e w' => e = .returned (.bool true) ∧ Below w.heap.size w w' := by
  obtain ⟨k, h⟩ := P a0 w0
  refine (polyptychlaw1_UtfdForms.calls k a0 true w h (Aside0.mk rfl)).mono ?_
  rintro e w' ⟨rfl, hd⟩
  exact ⟨rfl, hd⟩

end Go.Proofs.Ytdfklcbcidopfaa.PUtfdForms
