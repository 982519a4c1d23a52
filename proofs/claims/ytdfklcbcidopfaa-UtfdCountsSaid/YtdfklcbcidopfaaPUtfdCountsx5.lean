-- Written by a program of this session over the print of the kit (functions marked FOREIGN are proved by this session).
import Derived.Test.YtdfklcbcidopfaaPUtfdCountsx0
import Derived.Test.YtdfklcbcidopfaaPUtfdCountsx1
import Derived.Test.YtdfklcbcidopfaaPUtfdCountsx3
import Derived.Test.YtdfklcbcidopfaaPUtfdCountsx4
namespace Go.Proofs.Ytdfklcbcidopfaa.PUtfdCounts
open Go.RowKit Go.Proofs.YtdfklcbcidopfaaW.PrintWords Go.Proofs.YtdfklcbcidopfaaW.PrintLast Go.Proofs.YtdfklcbcidopfaaW.PrintMore
attribute [local go_sem] max2_int min2_int max_two min_two max_three min_three max_four min_four   -- for this text's walks alone
set_option linter.unusedVariables false
set_option linter.unusedSimpArgs false

attribute [local go_sem high] eqA25
/-! ### polyptychlaw1_UtfdCounts: function 4 -/
mutual
def polyptychlaw1_UtfdCounts.l0 : Nat → List Int → Int → Int → Int → Int → Int → Int → Option (Bool)
  | 0, _, _, _, _, _, _, _ => none
  | k + 1, x0, x4, x14, x15, x200000, x200001, x200002 => if x15 < x14 then (if 0 ≤ x15 then (if x15 < (x0.length : Int) then ((utfd_Step.f k x200000 x200001 x200002 (rd x0 x15)).bind fun bt206 => (if (bt206.2.2.2.length : Int) > 2 then (polyptychlaw1_UtfdCounts.j1 k x0 x4 bt206.2.2.2 x14 x15 true bt206.1 bt206.2.1 bt206.2.2.1) else (if bt206.1 < 0 then (polyptychlaw1_UtfdCounts.j1 k x0 x4 bt206.2.2.2 x14 x15 true bt206.1 bt206.2.1 bt206.2.2.1) else (if bt206.1 > 3 then (polyptychlaw1_UtfdCounts.j1 k x0 x4 bt206.2.2.2 x14 x15 true bt206.1 bt206.2.1 bt206.2.2.1) else (if bt206.1 = 0 then (if (bt206.2.2.2.length : Int) = 0 then (polyptychlaw1_UtfdCounts.j1 k x0 x4 bt206.2.2.2 x14 x15 true bt206.1 bt206.2.1 bt206.2.2.1) else (polyptychlaw1_UtfdCounts.j1 k x0 x4 bt206.2.2.2 x14 x15 (!(bt206.1 == 0) || (!(bt206.2.1 == 0) || (!(bt206.2.2.1 == 0)))) bt206.1 bt206.2.1 bt206.2.2.1)) else (polyptychlaw1_UtfdCounts.j1 k x0 x4 bt206.2.2.2 x14 x15 false bt206.1 bt206.2.1 bt206.2.2.1)))))) else (none)) else (none)) else ((utfd_End.f 0 0 0).bind fun t200 => ((polyptychref1_SameRunes.f t200 ([] : List Int)).bind fun t203 => (if t203 = true then ((polyptychlaw1_awake.f k).bind fun t204 => (some t204)) else (some false))))
def polyptychlaw1_UtfdCounts.j1 : Nat → List Int → Int → List Int → Int → Int → Bool → Int → Int → Int → Option (Bool)
  | 0, _, _, _, _, _, _, _, _, _ => none
  | k + 1, x0, x4, x7, x14, x15, x54, x213000, x213001, x213002 => if x54 = true then (some false) else (if x213000 > 0 then (polyptychlaw1_UtfdCounts.j2 k x0 (wrap64 (x4 + 1)) x7 x14 x15 x213000 x213001 x213002) else (polyptychlaw1_UtfdCounts.j2 k x0 0 x7 x14 x15 x213000 x213001 x213002))
def polyptychlaw1_UtfdCounts.j2 : Nat → List Int → Int → List Int → Int → Int → Int → Int → Int → Option (Bool)
  | 0, _, _, _, _, _, _, _, _ => none
  | k + 1, x0, x4, x7, x14, x15, x213000, x213001, x213002 => if (x7.length : Int) > 0 then (polyptychlaw1_UtfdCounts.j3 k x0 x4 x14 x15 (decide (x213000 > 0)) x213000 x213001 x213002) else (polyptychlaw1_UtfdCounts.j3 k x0 x4 x14 x15 false x213000 x213001 x213002)
def polyptychlaw1_UtfdCounts.j3 : Nat → List Int → Int → Int → Int → Bool → Int → Int → Int → Option (Bool)
  | 0, _, _, _, _, _, _, _, _ => none
  | k + 1, x0, x4, x14, x15, x67, x213000, x213001, x213002 => if x67 = true then (if 1 > 3 then (some false) else ((utfd_End.f x213000 x213001 x213002).bind fun t213 => (if (t213.length : Int) = (mn x213000 1) then (polyptychlaw1_UtfdCounts.l0 k x0 1 x14 (wrap64 (x15 + 1)) x213000 x213001 x213002) else (some false)))) else (if x4 > 3 then (some false) else ((utfd_End.f x213000 x213001 x213002).bind fun t216 => (if (t216.length : Int) = (mn x213000 1) then (polyptychlaw1_UtfdCounts.l0 k x0 x4 x14 (wrap64 (x15 + 1)) x213000 x213001 x213002) else (some false))))
end
def polyptychlaw1_UtfdCounts.f (k : Nat) (l0 : List Int) : Option (Bool) := if (l0.length : Int) > 500 then ((polyptychlaw1_awake.f k).bind fun t198 => (some t198)) else (polyptychlaw1_UtfdCounts.l0 k l0 0 (l0.length : Int) 0 0 0 0)
theorem polyptychlaw1_UtfdCounts.mono_l : ∀ k, (∀ y0 y1 y2 y3 y4 y5 y6, LeO (polyptychlaw1_UtfdCounts.l0 k y0 y1 y2 y3 y4 y5 y6) (polyptychlaw1_UtfdCounts.l0 (k + 1) y0 y1 y2 y3 y4 y5 y6)) ∧ (∀ y0 y1 y2 y3 y4 y5 y6 y7 y8, LeO (polyptychlaw1_UtfdCounts.j1 k y0 y1 y2 y3 y4 y5 y6 y7 y8) (polyptychlaw1_UtfdCounts.j1 (k + 1) y0 y1 y2 y3 y4 y5 y6 y7 y8)) ∧ (∀ y0 y1 y2 y3 y4 y5 y6 y7, LeO (polyptychlaw1_UtfdCounts.j2 k y0 y1 y2 y3 y4 y5 y6 y7) (polyptychlaw1_UtfdCounts.j2 (k + 1) y0 y1 y2 y3 y4 y5 y6 y7)) ∧ (∀ y0 y1 y2 y3 y4 y5 y6 y7, LeO (polyptychlaw1_UtfdCounts.j3 k y0 y1 y2 y3 y4 y5 y6 y7) (polyptychlaw1_UtfdCounts.j3 (k + 1) y0 y1 y2 y3 y4 y5 y6 y7))
  | 0 => ⟨fun _ _ _ _ _ _ _ r h => by simp [polyptychlaw1_UtfdCounts.l0] at h, fun _ _ _ _ _ _ _ _ _ r h => by simp [polyptychlaw1_UtfdCounts.j1] at h, fun _ _ _ _ _ _ _ _ r h => by simp [polyptychlaw1_UtfdCounts.j2] at h, fun _ _ _ _ _ _ _ _ r h => by simp [polyptychlaw1_UtfdCounts.j3] at h⟩
  | k + 1 => by
    obtain ⟨ih0, ih1, ih2, ih3⟩ := polyptychlaw1_UtfdCounts.mono_l k
    refine ⟨?_, ?_, ?_, ?_⟩
    · intro y0 y1 y2 y3 y4 y5 y6
      unfold polyptychlaw1_UtfdCounts.l0
      repeat' first
      | (with_reducible exact ih0 _ _ _ _ _ _ _)
      | (with_reducible exact ih1 _ _ _ _ _ _ _ _ _)
      | (with_reducible exact ih2 _ _ _ _ _ _ _ _)
      | (with_reducible exact ih3 _ _ _ _ _ _ _ _)
      | (with_reducible exact polyptychlaw1_awake.mono _)
      | (with_reducible exact utfd_Step.mono _ _ _ _ _)
      | (with_reducible exact LeO.refl _)
      | (with_reducible exact LeO.none _)
      | (with_reducible refine LeO.ite ?_ ?_)
      | (with_reducible refine LeO.bind ?_ (fun _ => ?_))
      | exact ih0 _ _ _ _ _ _ _
      | exact ih1 _ _ _ _ _ _ _ _ _
      | exact ih2 _ _ _ _ _ _ _ _
      | exact ih3 _ _ _ _ _ _ _ _
      | exact polyptychlaw1_awake.mono _
      | exact utfd_Step.mono _ _ _ _ _
      | exact LeO.none _
      | refine LeO.ite ?_ ?_
      | refine LeO.bind ?_ (fun _ => ?_)
    · intro y0 y1 y2 y3 y4 y5 y6 y7 y8
      unfold polyptychlaw1_UtfdCounts.j1
      repeat' first
      | (with_reducible exact ih0 _ _ _ _ _ _ _)
      | (with_reducible exact ih1 _ _ _ _ _ _ _ _ _)
      | (with_reducible exact ih2 _ _ _ _ _ _ _ _)
      | (with_reducible exact ih3 _ _ _ _ _ _ _ _)
      | (with_reducible exact polyptychlaw1_awake.mono _)
      | (with_reducible exact utfd_Step.mono _ _ _ _ _)
      | (with_reducible exact LeO.refl _)
      | (with_reducible exact LeO.none _)
      | (with_reducible refine LeO.ite ?_ ?_)
      | (with_reducible refine LeO.bind ?_ (fun _ => ?_))
      | exact ih0 _ _ _ _ _ _ _
      | exact ih1 _ _ _ _ _ _ _ _ _
      | exact ih2 _ _ _ _ _ _ _ _
      | exact ih3 _ _ _ _ _ _ _ _
      | exact polyptychlaw1_awake.mono _
      | exact utfd_Step.mono _ _ _ _ _
      | exact LeO.none _
      | refine LeO.ite ?_ ?_
      | refine LeO.bind ?_ (fun _ => ?_)
    · intro y0 y1 y2 y3 y4 y5 y6 y7
      unfold polyptychlaw1_UtfdCounts.j2
      repeat' first
      | (with_reducible exact ih0 _ _ _ _ _ _ _)
      | (with_reducible exact ih1 _ _ _ _ _ _ _ _ _)
      | (with_reducible exact ih2 _ _ _ _ _ _ _ _)
      | (with_reducible exact ih3 _ _ _ _ _ _ _ _)
      | (with_reducible exact polyptychlaw1_awake.mono _)
      | (with_reducible exact utfd_Step.mono _ _ _ _ _)
      | (with_reducible exact LeO.refl _)
      | (with_reducible exact LeO.none _)
      | (with_reducible refine LeO.ite ?_ ?_)
      | (with_reducible refine LeO.bind ?_ (fun _ => ?_))
      | exact ih0 _ _ _ _ _ _ _
      | exact ih1 _ _ _ _ _ _ _ _ _
      | exact ih2 _ _ _ _ _ _ _ _
      | exact ih3 _ _ _ _ _ _ _ _
      | exact polyptychlaw1_awake.mono _
      | exact utfd_Step.mono _ _ _ _ _
      | exact LeO.none _
      | refine LeO.ite ?_ ?_
      | refine LeO.bind ?_ (fun _ => ?_)
    · intro y0 y1 y2 y3 y4 y5 y6 y7
      unfold polyptychlaw1_UtfdCounts.j3
      repeat' first
      | (with_reducible exact ih0 _ _ _ _ _ _ _)
      | (with_reducible exact ih1 _ _ _ _ _ _ _ _ _)
      | (with_reducible exact ih2 _ _ _ _ _ _ _ _)
      | (with_reducible exact ih3 _ _ _ _ _ _ _ _)
      | (with_reducible exact polyptychlaw1_awake.mono _)
      | (with_reducible exact utfd_Step.mono _ _ _ _ _)
      | (with_reducible exact LeO.refl _)
      | (with_reducible exact LeO.none _)
      | (with_reducible refine LeO.ite ?_ ?_)
      | (with_reducible refine LeO.bind ?_ (fun _ => ?_))
      | exact ih0 _ _ _ _ _ _ _
      | exact ih1 _ _ _ _ _ _ _ _ _
      | exact ih2 _ _ _ _ _ _ _ _
      | exact ih3 _ _ _ _ _ _ _ _
      | exact polyptychlaw1_awake.mono _
      | exact utfd_Step.mono _ _ _ _ _
      | exact LeO.none _
      | refine LeO.ite ?_ ?_
      | refine LeO.bind ?_ (fun _ => ?_)
theorem polyptychlaw1_UtfdCounts.mono : ∀ a0 k, LeO (polyptychlaw1_UtfdCounts.f k a0) (polyptychlaw1_UtfdCounts.f (k + 1) a0) := by
  intro a0 k
  obtain ⟨ih0, ih1, ih2, ih3⟩ := polyptychlaw1_UtfdCounts.mono_l k
  unfold polyptychlaw1_UtfdCounts.f
  repeat' first
      | (with_reducible exact ih0 _ _ _ _ _ _ _)
      | (with_reducible exact ih1 _ _ _ _ _ _ _ _ _)
      | (with_reducible exact ih2 _ _ _ _ _ _ _ _)
      | (with_reducible exact ih3 _ _ _ _ _ _ _ _)
      | (with_reducible exact polyptychlaw1_awake.mono _)
      | (with_reducible exact utfd_Step.mono _ _ _ _ _)
      | (with_reducible exact LeO.refl _)
      | (with_reducible exact LeO.none _)
      | (with_reducible refine LeO.ite ?_ ?_)
      | (with_reducible refine LeO.bind ?_ (fun _ => ?_))
      | exact ih0 _ _ _ _ _ _ _
      | exact ih1 _ _ _ _ _ _ _ _ _
      | exact ih2 _ _ _ _ _ _ _ _
      | exact ih3 _ _ _ _ _ _ _ _
      | exact polyptychlaw1_awake.mono _
      | exact utfd_Step.mono _ _ _ _ _
      | exact LeO.none _
      | refine LeO.ite ?_ ?_
      | refine LeO.bind ?_ (fun _ => ?_)
def polyptychlaw1_UtfdCounts.T8 : Bool × List (List Nat × List Nat) := (true, [([], []), ([], []), ([], []), ([1, 2], [1, 2]), ([3], [3]), ([0, 4], [0, 4]), ([5], [5]), ([6], [6]), ([6], [6]), ([], []), ([9, 7, 5, 0, 1, 2, 3, 4, 5, 6, 7, 9], [7, 9]), ([8, 10, 0, 1, 2, 3, 4, 5, 6, 7, 8, 9, 10], [8])])
def polyptychlaw1_UtfdCounts.B8 : List Nat := [0, 0, 0, 6, 14, 31, 63, 127, 127, 0, 767, 2047]
theorem polyptychlaw1_UtfdCounts.tab8 : rtab .any (opsOf Try.f4 8) = polyptychlaw1_UtfdCounts.T8 := by kernel_rfl
theorem polyptychlaw1_UtfdCounts.bits8 : waitsOk polyptychlaw1_UtfdCounts.T8.2 polyptychlaw1_UtfdCounts.B8 = true := by kernel_rfl
def polyptychlaw1_UtfdCounts.T16 : Bool × List (List Nat × List Nat) := (true, [([], []), ([0], [0]), ([1], [1]), ([2], [2]), ([3, 2, 2], [2, 3]), ([4, 2], [2, 4]), ([2], [2]), ([6, 2], [2, 6]), ([7, 2], [2, 7]), ([5, 8, 2], [2, 5, 8]), ([2, 9], [2, 9])])
def polyptychlaw1_UtfdCounts.B16 : List Nat := [0, 1, 3, 7, 15, 31, 7, 71, 199, 511, 1023]
theorem polyptychlaw1_UtfdCounts.tab16 : rtab .any (opsOf Try.f4 16) = polyptychlaw1_UtfdCounts.T16 := by kernel_rfl
theorem polyptychlaw1_UtfdCounts.bits16 : waitsOk polyptychlaw1_UtfdCounts.T16.2 polyptychlaw1_UtfdCounts.B16 = true := by kernel_rfl
set_option maxHeartbeats 8000000 in
set_option maxRecDepth 100000 in
theorem polyptychlaw1_UtfdCounts.calls (k : Nat) (A0 : Option Addr) (c0 : Nat) (l0 : List Int) (r : Bool) (w : World) (hr0 : Kd.C (Kd.int .u8) w A0 l0.length l0) (hc0 : l0.length ≤ c0) (h : polyptychlaw1_UtfdCounts.f k l0 = some r) (hT_ : Aside0 (r = true)) :
    Calls Try.prog 4 #[.slice A0 l0.length c0] w fun e w' => e = .returned (.bool r) ∧ Below w.heap.size w w' := by
  have hu25 := Try.underlying25
  have HR0 := Aside0.mk hr0
  have HC0 := Aside0.mk hc0
  clear hr0 hc0
  have HB := Aside0.mk (Below.refl w.heap.size w)
  have H : (if (l0.length : Int) > 500 then ((polyptychlaw1_awake.f k).bind fun t198 => (some t198)) else (polyptychlaw1_UtfdCounts.l0 k l0 0 (l0.length : Int) 0 0 0 0)) = some r := h
  clear h
  by_cases c2 : (l0.length : Int) > 500
  · rw [if_pos c2] at H
    have c2b0 : decide (500 < (l0.length : Int)) = true := decide_eq_true c2
    have c2b1 : decide (500 < l0.length) = true := decide_eq_true (by omega)
    clear c2
    replace H := Option.bind_eq_some_iff.mp H
    obtain ⟨t198, A30, H⟩ := H
    replace H : (some t198) = some r := H
    have A3 := Aside0.mk A30
    clear A30
    obtain rfl := Option.some.inj H
    go_enter Try.func4, Try.ntmps4
    go_wp2_with (first | ((with_reducible refine gate_callee (f := 9) rfl ?_); refine goesL_ (some 11) rfl rfl Try.func9 (by kernel_rfl) rfl #[] rfl (by (try simp only [List.map_toArray, List.map_cons, List.map_nil]); first | done | rfl | (simp only [List.length_drop, List.length_take]; rfl)) ?_; (with_reducible refine (polyptychlaw1_awake.calls k  t198 _ A3.out).mono ?_); rintro e w4 ⟨rfl, hb⟩; refine ⟨_, rfl, ?_⟩; have n0_ := Aside0.mk (below_step (by repeat (first | (with_reducible first | exact HB.out | apply below_alloc | apply pw_below_drewN | apply below_drew1) | exact HB.out)) hb); clear HB; have HB := n0_; clear n0_; (try clear hb); (try clear hb2); (try clear hk); (try clear hi)))
    go_ret
    exact ⟨by first | rfl | (simp [errW_none, errW_some] <;> rfl) | (simp [*, errW_none, errW_some] <;> rfl), by repeat (first | (with_reducible first | exact HB.out | apply below_alloc | apply pw_below_drewN | apply below_drew1) | exact HB.out)⟩
  · rw [if_neg c2] at H
    have c2b0 : decide (500 < (l0.length : Int)) = false := decide_eq_false c2
    have c2b1 : decide (500 < l0.length) = false := decide_eq_false (by omega)
    clear c2
    have H' := Aside0.mk H
    clear H
    go_enter Try.func4, Try.ntmps4
    go_wp2_with (first | ((with_reducible refine gate_dst (N := 3) rfl ?_); (try (refine gate_guard (by rfl) ?_; dsimp only)); refine box_event ?hg (N := 3) ?hd (cs := #[.int .i64 0, .int .i64 0, .int .i64 0]) (t := 25) ?hr ?_; (case hd => rfl); (case hg => rfl); (case hr => first | (go_simp; done) | (go_simp; rfl)); intro gb199 hg w5 hbox hb; have n0_ := Aside0.mk (below_step (by repeat (first | (with_reducible first | exact HB.out | apply below_alloc | apply pw_below_drewN | apply below_drew1) | exact HB.out)) hb); have n1_ := Aside0.mk (hbox); have n2_ := Aside0.mk ((by rw [hg]; exact (below_size (by repeat (first | (with_reducible first | exact HB.out | apply below_alloc | apply pw_below_drewN | apply below_drew1) | exact HB.out))) : w.heap.size ≤ gb199)); have n3_ := Aside0.mk ((by rw [hg]; exact (below_size (by repeat (first | (with_reducible first | exact HB.out | apply below_alloc | apply pw_below_drewN | apply below_drew1) | exact HB.out))) : w.heap.size ≤ gb199)); clear HB; have HB := n0_; have BK199 := n1_; have GW199 := n2_; have GE199 := n3_; clear n0_ n1_ n2_ n3_; clear hb hbox hg; have hcz6_0 : w5.cell? ⟨gb199, 0, none⟩ = some (.int .i64 0) := (blk_cell BK199.out 0).trans rfl; have hcz6_1 : w5.cell? ⟨gb199, 1, none⟩ = some (.int .i64 0) := (blk_cell BK199.out 1).trans rfl; have hcz6_2 : w5.cell? ⟨gb199, 2, none⟩ = some (.int .i64 0) := (blk_cell BK199.out 2).trans rfl; have hfz6_0 := blk_frozen BK199.out 0; have hfz6_1 := blk_frozen BK199.out 1; have hfz6_2 := blk_frozen BK199.out 2))
    go_loopg [4, 15] k (fun kq v4 v15 w' => ∃ (x4_1 : Int) (x15_1 : Int) (x200000_1 : Int) (x200001_1 : Int) (x200002_1 : Int), v4 = .int .i64 x4_1 ∧ v15 = .int .i64 x15_1 ∧ Aside0 (polyptychlaw1_UtfdCounts.l0 kq l0 x4_1 (l0.length : Int) x15_1 x200000_1 x200001_1 x200002_1 = some r) ∧ Aside0 (kq ≤ k) ∧ Aside0 (w'.heap[gb199]? = some (.cells #[.int .i64 x200000_1, .int .i64 x200001_1, .int .i64 x200002_1] 25 (0, 0))) ∧ Aside0 (Below w.heap.size w w'))
    case atStart => exact ⟨(0), (0), (0), (0), (0), (by first | rfl | (simp; done) | (simp [*]; done)), (by first | rfl | (simp; done) | (simp [*]; done)), H', ⟨Nat.le_refl _⟩, ⟨by (with_reducible repeat (first | refine blk_drewN ?_ _ | refine blk_drew ?_ | refine blk_alloc ?_ _)); refine blk_put (cs := #[.int .i64 0, .int .i64 0, .int .i64 0]) ?_ 2 _ rfl; (with_reducible repeat (first | refine blk_drewN ?_ _ | refine blk_drew ?_ | refine blk_alloc ?_ _)); refine blk_put (cs := #[.int .i64 0, .int .i64 0, .int .i64 0]) ?_ 1 _ rfl; (with_reducible repeat (first | refine blk_drewN ?_ _ | refine blk_drew ?_ | refine blk_alloc ?_ _)); refine blk_put (cs := #[.int .i64 0, .int .i64 0, .int .i64 0]) ?_ 0 _ rfl; (with_reducible repeat (first | refine blk_drewN ?_ _ | refine blk_drew ?_ | refine blk_alloc ?_ _)); exact BK199.out⟩, ⟨by repeat (first | (with_reducible first | exact HB.out | apply below_alloc | apply pw_below_drewN | apply below_drew1 | refine below_set ?_ GE199.out) | exact HB.out)⟩⟩
    case round =>
      clear H'
      try clear c2
      try clear c2b0
      try clear c2b1
      try clear p2
      try clear c4
      try clear hcz6_0
      try clear hcz6_1
      try clear hcz6_2
      try clear hfz6_0
      try clear hfz6_1
      try clear hfz6_2
      obtain ⟨x4_1, x15_1, x200000_1, x200001_1, x200002_1, rfl, rfl, HA, HK1, BK199, HB⟩ := hrel
      cases gk with
      | zero => exact absurd HA.out (by simp [polyptychlaw1_UtfdCounts.l0])
      | succ k1 =>
        have H := HA.out
        clear HA
        simp only [polyptychlaw1_UtfdCounts.l0] at H
        by_cases c7 : x15_1 < (l0.length : Int)
        · rw [if_pos c7] at H
          have c7b0 : decide (x15_1 < (l0.length : Int)) = true := decide_eq_true c7
          clear c7
          by_cases c8 : 0 ≤ x15_1
          · rw [if_pos c8] at H
            have c8b0 : decide (0 ≤ x15_1) = true := decide_eq_true c8
            clear c8
            by_cases c9 : x15_1 < (l0.length : Int)
            · rw [if_pos c9] at H
              have c9b0 : decide (x15_1 < (l0.length : Int)) = true := decide_eq_true c9
              clear c9
              replace H := Option.bind_eq_some_iff.mp H
              obtain ⟨⟨t206, t207, t208, t209⟩, A100, H⟩ := H
              replace H : (if (t209.length : Int) > 2 then (polyptychlaw1_UtfdCounts.j1 k1 l0 x4_1 t209 (l0.length : Int) x15_1 true t206 t207 t208) else (if t206 < 0 then (polyptychlaw1_UtfdCounts.j1 k1 l0 x4_1 t209 (l0.length : Int) x15_1 true t206 t207 t208) else (if t206 > 3 then (polyptychlaw1_UtfdCounts.j1 k1 l0 x4_1 t209 (l0.length : Int) x15_1 true t206 t207 t208) else (if t206 = 0 then (if (t209.length : Int) = 0 then (polyptychlaw1_UtfdCounts.j1 k1 l0 x4_1 t209 (l0.length : Int) x15_1 true t206 t207 t208) else (polyptychlaw1_UtfdCounts.j1 k1 l0 x4_1 t209 (l0.length : Int) x15_1 (!(t206 == 0) || (!(t207 == 0) || (!(t208 == 0)))) t206 t207 t208)) else (polyptychlaw1_UtfdCounts.j1 k1 l0 x4_1 t209 (l0.length : Int) x15_1 false t206 t207 t208))))) = some r := H
              have A10 := Aside0.mk A100
              clear A100
              have HC11 := Aside0.mk H
              clear H
              try go_wp2
              have n0_ := Aside0.mk (blk_drew BK199.out)
              have n1_ := Aside0.mk (below_drew1 HB.out)
              clear BK199
              clear HB
              have BK199 := n0_
              have HB := n1_
              clear n0_ n1_
              have p205 : 0 ≤ (x15_1 : Int) := of_decide_eq_true (by first | (with_reducible assumption) | assumption)
              have q205 : x15_1 < (l0.length : Int) := of_decide_eq_true (by first | (with_reducible assumption) | assumption)
              obtain ⟨ad205, e205, hx205_0⟩ := Kd.at_int HR0.out x15_1 p205 q205
              have hw205_0 := hx205_0
              cases e205
              replace hx205_0 := (HB.out.cell (World.block_lt_of_cell? w _ hx205_0)).trans hx205_0
              replace p205 := eq_true p205
              replace q205 := eq_true q205
              refine start_ (n := 12) (S := fun w' => w'.cell? ⟨gb199, 0, none⟩ = some (.int .i64 x200000_1) ∧ w'.cell? ⟨gb199, 1, none⟩ = some (.int .i64 x200001_1) ∧ w'.cell? ⟨gb199, 2, none⟩ = some (.int .i64 x200002_1) ∧ w'.cell? (ad205.add (x15_1).toNat) = some (.int .u8 (rd l0 x15_1))) (ds := []) #[false, false, false, false, false, false, false, false, false, false, false, false] (by kernel_rfl) rfl rfl ⟨(blk_cell BK199.out 0).trans rfl, (blk_cell BK199.out 1).trans rfl, (blk_cell BK199.out 2).trans rfl, ((HB.out.cell (World.block_lt_of_cell? w _ hw205_0)).trans hw205_0)⟩ (fun hHeld => ?_); refine with_tabW polyptychlaw1_UtfdCounts.tab8 polyptychlaw1_UtfdCounts.bits8 (fun HT_ HW_ => ?_)
              generalize wr.drew = w12 at BK199 HB hx205_0 hHeld ⊢
              refine pure_ (i := 1) (N := some 20) (v := ?_) (a' := ?_) #[false, true, false, false, false, false, false, false, false, false, false, false] rfl rfl (any_of HT_.out (by kernel_rfl)) (fun _ _ _ h => h) (Or.inl ⟨by rfl, ?_⟩) ?_ ?_
              rotate_left
              · intro w'
                go_simp
                with_reducible rfl
              rotate_left
              · simp only [Act.put, List.setIfInBounds_toArray, List.set_cons_zero, List.set_cons_succ, i64_w, i32_w]
                rfl
              refine pure_ (i := 2) (N := some 21) (v := ?_) (a' := ?_) #[false, true, true, false, false, false, false, false, false, false, false, false] rfl rfl (any_of HT_.out (by kernel_rfl)) (fun _ _ _ h => h) (Or.inl ⟨by rfl, ?_⟩) ?_ ?_
              rotate_left
              · intro w'
                go_simp
                with_reducible rfl
              rotate_left
              · simp only [Act.put, List.setIfInBounds_toArray, List.set_cons_zero, List.set_cons_succ, i64_w, i32_w]
                rfl
              refine pure_ (i := 3) (N := some 22) (v := ?_) (a' := ?_) #[false, true, true, true, false, false, false, false, false, false, false, false] rfl rfl (any_of HT_.out (by kernel_rfl)) (fun _ _ _ h => h) (Or.inl ⟨by rfl, ?_⟩) ?_ ?_
              rotate_left
              · intro w'
                go_simp
                with_reducible rfl
              rotate_left
              · simp only [Act.put, List.setIfInBounds_toArray, List.set_cons_zero, List.set_cons_succ, i64_w, i32_w]
                rfl
              refine take_ (i := 0) (N := some 19) (v := ?_) (a' := ?_) #[true, true, true, true, false, false, false, false, false, false, false, false] rfl rfl (take_ofW HT_.out HW_.out (by kernel_rfl)) (fun _ _ _ h => h) (Or.inl ⟨by rfl, ?_⟩) hHeld ?_ ?_
              rotate_left
              · rintro w' ⟨s0, s1, s2, s3⟩
                go_simp
                with_reducible rfl
              rotate_left
              · simp only [Act.put, List.setIfInBounds_toArray, List.set_cons_zero, List.set_cons_succ, i64_w, i32_w]
                rfl
              refine take_ (i := 4) (N := some 23) (v := ?_) (a' := ?_) #[true, true, true, true, true, false, false, false, false, false, false, false] rfl rfl (take_ofW HT_.out HW_.out (by kernel_rfl)) (fun _ _ _ h => h) (Or.inl ⟨by rfl, ?_⟩) hHeld ?_ ?_
              rotate_left
              · rintro w' ⟨s0, s1, s2, s3⟩
                go_simp
                with_reducible rfl
              rotate_left
              · simp only [Act.put, List.setIfInBounds_toArray, List.set_cons_zero, List.set_cons_succ, i64_w, i32_w]
                rfl
              refine join_ (σ := Value × Nat) 2 #[true, true, true, true, true, true, true, true, true, true, false, false] (fun s_ => [(24, .tuple #[.agg #[.int .i64 t206, .int .i64 t207, .int .i64 t208], s_.1]), (6, .pointer (some ⟨s_.2, 0, none⟩)), (18, .tuple #[.agg #[.int .i64 t206, .int .i64 t207, .int .i64 t208], s_.1]), (25, .agg #[.int .i64 t206, .int .i64 t207, .int .i64 t208]), (26, s_.1)]) (fun s_ w' => (w'.cell? ⟨gb199, 0, none⟩ = some (.int .i64 x200000_1) ∧ w'.cell? ⟨gb199, 1, none⟩ = some (.int .i64 x200001_1) ∧ w'.cell? ⟨gb199, 2, none⟩ = some (.int .i64 x200002_1) ∧ w'.cell? (ad205.add (x15_1).toNat) = some (.int .u8 (rd l0 x15_1))) ∧ (Kd.R (Kd.int .i32) 21 w' w.heap.size (fun _ => True) s_.1 t209) ∧ (w'.heap[gb199]? = some (.cells #[.int .i64 x200000_1, .int .i64 x200001_1, .int .i64 x200002_1] 25 (0, 0))) ∧ (w'.heap[s_.2]? = some (.cells #[.int .i64 0, .int .i64 0, .int .i64 0] 25 (0, 0))) ∧ (w.heap.size ≤ s_.2) ∧ (w.heap.size ≤ s_.2) ∧ (gb199 ≠ s_.2) ∧ (s_.2 ≠ gb199) ∧ (Below w.heap.size w w')) ?_ ?_
              rotate_left
              · intro hCont
                refine two_ (i := 5) (j := 9) (Ni := some 24) (Nj := some 6) #[true, true, true, true, true, true, false, false, false, false, false, false] #[true, true, true, true, true, false, false, false, false, true, false, false] rfl rfl rfl rfl (two_of HT_.out (by kernel_rfl)) (by decide) (by decide) (fun K hK => ?_) (fun K hK => ?_)
                · skip
                  refine goes_ Try.func7 (by kernel_rfl) rfl #[.agg #[.int .i64 x200000_1, .int .i64 x200001_1, .int .i64 x200002_1], .int .u8 (rd l0 x15_1)] (by rfl) rfl rfl (by (try simp only [List.map_toArray, List.map_cons, List.map_nil]); first | done | rfl | (simp only [List.length_drop, List.length_take]; rfl)) ?_
                  with_reducible refine (utfd_Step.calls k1 x200000_1 x200001_1 x200002_1 (rd l0 x15_1) t206 t207 t208 t209 _ A10.out).mono ?_
                  rintro e w13 ⟨v210, rfl, ho0, hb⟩
                  refine ⟨_, rfl, ?_⟩
                  have n0_ := Aside0.mk (Kd.R_lower ho0 (below_size (by repeat (first | (with_reducible first | exact HB.out | apply below_alloc | apply pw_below_drewN | apply below_drew1 | refine below_set ?_ GE199.out) | exact HB.out))))
                  have n1_ := Aside0.mk (blk_below (g := gb199) (o := .cells #[.int .i64 x200000_1, .int .i64 x200001_1, .int .i64 x200002_1] 25 (0, 0)) (by (with_reducible repeat (first | refine blk_drewN ?_ _ | refine blk_drew ?_ | refine blk_alloc ?_ _)); exact BK199.out) hb)
                  have n2_ := Aside0.mk (below_step (by repeat (first | (with_reducible first | exact HB.out | apply below_alloc | apply pw_below_drewN | apply below_drew1 | refine below_set ?_ GE199.out) | exact HB.out)) hb)
                  clear BK199
                  clear HB
                  have HO211 := n0_
                  have BK199 := n1_
                  have HB := n2_
                  clear n0_ n1_ n2_
                  (try clear hb)
                  (try clear hb2)
                  (try clear hk)
                  (try clear hi)
                  (try clear ho0)
                  refine hK.out _ _ ⟨(blk_cell BK199.out 0).trans rfl, (blk_cell BK199.out 1).trans rfl, (blk_cell BK199.out 2).trans rfl, ((HB.out.cell (World.block_lt_of_cell? w _ hw205_0)).trans hw205_0)⟩ (fun hHeld => ?_)
                  clear hK K
                  refine norm_ (a' := ?_) ?_ ?_
                  rotate_left
                  · show Act.put _ (some 24) _ = _
                    simp only [Act.put, List.setIfInBounds_toArray, List.set_cons_zero, List.set_cons_succ, i64_w, i32_w]
                    rfl
                  refine pure_ (i := 6) (N := some 18) (v := ?_) (a' := ?_) #[true, true, true, true, true, true, true, false, false, false, false, false] rfl rfl (any_of HT_.out (by kernel_rfl)) (fun _ _ _ h => h) (Or.inl ⟨by rfl, ?_⟩) ?_ ?_
                  rotate_left
                  · intro w'
                    go_simp
                    with_reducible rfl
                  rotate_left
                  · simp only [Act.put, List.setIfInBounds_toArray, List.set_cons_zero, List.set_cons_succ, i64_w, i32_w]
                    rfl
                  refine pure_ (i := 7) (N := some 25) (v := ?_) (a' := ?_) #[true, true, true, true, true, true, true, true, false, false, false, false] rfl rfl (any_of HT_.out (by kernel_rfl)) (fun _ _ _ h => h) (Or.inl ⟨by rfl, ?_⟩) ?_ ?_
                  rotate_left
                  · intro w'
                    go_simp
                    with_reducible rfl
                  rotate_left
                  · simp only [Act.put, List.setIfInBounds_toArray, List.set_cons_zero, List.set_cons_succ, i64_w, i32_w]
                    rfl
                  refine pure_ (i := 8) (N := some 26) (v := ?_) (a' := ?_) #[true, true, true, true, true, true, true, true, true, false, false, false] rfl rfl (any_of HT_.out (by kernel_rfl)) (fun _ _ _ h => h) (Or.inl ⟨by rfl, ?_⟩) ?_ ?_
                  rotate_left
                  · intro w'
                    go_simp
                    with_reducible rfl
                  rotate_left
                  · simp only [Act.put, List.setIfInBounds_toArray, List.set_cons_zero, List.set_cons_succ, i64_w, i32_w]
                    rfl
                  refine one_ (i := 9) (N := some 6) #[true, true, true, true, true, true, true, true, true, true, false, false] rfl rfl (one_of HT_.out (by kernel_rfl)) (by decide) (fun K hK => ?_)
                  refine box_step ?hg (N := 6) ?hd (cs := #[.int .i64 0, .int .i64 0, .int .i64 0]) (t := 25) ?hr ?_; (case hd => rfl); (case hg => rfl); (case hr => first | (go_simp; done) | (go_simp; rfl))
                  intro gb212 hg w14 hbox hb
                  have n0_ := Aside0.mk (Kd.R_below (by (with_reducible repeat (first | apply Kd.R_alloc | apply Kd.R_drewN | apply Kd.R_drew)); exact HO211.out) hb)
                  have n1_ := Aside0.mk (blk_below (g := gb199) (o := .cells #[.int .i64 x200000_1, .int .i64 x200001_1, .int .i64 x200002_1] 25 (0, 0)) (by (with_reducible repeat (first | refine blk_drewN ?_ _ | refine blk_drew ?_ | refine blk_alloc ?_ _)); exact BK199.out) hb)
                  have n2_ := Aside0.mk (below_step (by repeat (first | (with_reducible first | exact HB.out | apply below_alloc | apply pw_below_drewN | apply below_drew1 | refine below_set ?_ GE199.out) | exact HB.out)) hb)
                  have n3_ := Aside0.mk (hbox)
                  have n4_ := Aside0.mk ((by rw [hg]; exact (below_size (by repeat (first | (with_reducible first | exact HB.out | apply below_alloc | apply pw_below_drewN | apply below_drew1 | refine below_set ?_ GE199.out) | exact HB.out))) : w.heap.size ≤ gb212))
                  have n5_ := Aside0.mk ((by rw [hg]; exact (below_size (by repeat (first | (with_reducible first | exact HB.out | apply below_alloc | apply pw_below_drewN | apply below_drew1 | refine below_set ?_ GE199.out) | exact HB.out))) : w.heap.size ≤ gb212))
                  have n6_ := Aside0.mk ((by rw [hg]; exact Nat.ne_of_lt (blk_lt (g := gb199) (o := .cells #[.int .i64 x200000_1, .int .i64 x200001_1, .int .i64 x200002_1] 25 (0, 0)) (by (with_reducible repeat (first | refine blk_drewN ?_ _ | refine blk_drew ?_ | refine blk_alloc ?_ _)); exact BK199.out)) : gb199 ≠ gb212))
                  have n7_ := Aside0.mk ((by rw [hg]; exact Nat.ne_of_gt (blk_lt (g := gb199) (o := .cells #[.int .i64 x200000_1, .int .i64 x200001_1, .int .i64 x200002_1] 25 (0, 0)) (by (with_reducible repeat (first | refine blk_drewN ?_ _ | refine blk_drew ?_ | refine blk_alloc ?_ _)); exact BK199.out)) : gb212 ≠ gb199))
                  clear HO211
                  clear BK199
                  clear HB
                  have HO211 := n0_
                  have BK199 := n1_
                  have HB := n2_
                  have BK212 := n3_
                  have GW212 := n4_
                  have GE212 := n5_
                  have NB199_212 := n6_
                  have NB212_199 := n7_
                  clear n0_ n1_ n2_ n3_ n4_ n5_ n6_ n7_
                  clear hb hbox hg
                  refine hK.out _ _ ⟨(blk_cell BK199.out 0).trans rfl, (blk_cell BK199.out 1).trans rfl, (blk_cell BK199.out 2).trans rfl, ((HB.out.cell (World.block_lt_of_cell? w _ hw205_0)).trans hw205_0)⟩ (fun hHeld => ?_)
                  clear hK K
                  refine norm_ (a' := ?_) ?_ ?_
                  rotate_left
                  · show Act.put _ (some 6) _ = _
                    simp only [Act.put, List.setIfInBounds_toArray, List.set_cons_zero, List.set_cons_succ, i64_w, i32_w]
                    rfl
                  exact norm_ (by simp only [putAll, Act.put, List.setIfInBounds_toArray, List.set_cons_zero, List.set_cons_succ]) (hCont (v210, gb212) _ ⟨hHeld, (by (with_reducible repeat (first | apply Kd.R_alloc | apply Kd.R_drewN | apply Kd.R_drew)); exact HO211.out), (by (with_reducible repeat (first | refine blk_drewN ?_ _ | refine blk_drew ?_ | refine blk_alloc ?_ _)); exact BK199.out), (by (with_reducible repeat (first | refine blk_drewN ?_ _ | refine blk_drew ?_ | refine blk_alloc ?_ _)); exact BK212.out), GW212.out, GE212.out, NB199_212.out, NB212_199.out, (by repeat (first | (with_reducible first | exact HB.out | apply below_alloc | apply pw_below_drewN | apply below_drew1 | refine below_set ?_ GE199.out | refine below_set ?_ GE212.out) | exact HB.out))⟩)
                · skip
                  refine box_step ?hg (N := 6) ?hd (cs := #[.int .i64 0, .int .i64 0, .int .i64 0]) (t := 25) ?hr ?_; (case hd => rfl); (case hg => rfl); (case hr => first | (go_simp; done) | (go_simp; rfl))
                  intro gb212 hg w13 hbox hb
                  have n0_ := Aside0.mk (blk_below (g := gb199) (o := .cells #[.int .i64 x200000_1, .int .i64 x200001_1, .int .i64 x200002_1] 25 (0, 0)) (by (with_reducible repeat (first | refine blk_drewN ?_ _ | refine blk_drew ?_ | refine blk_alloc ?_ _)); exact BK199.out) hb)
                  have n1_ := Aside0.mk (below_step (by repeat (first | (with_reducible first | exact HB.out | apply below_alloc | apply pw_below_drewN | apply below_drew1 | refine below_set ?_ GE199.out) | exact HB.out)) hb)
                  have n2_ := Aside0.mk (hbox)
                  have n3_ := Aside0.mk ((by rw [hg]; exact (below_size (by repeat (first | (with_reducible first | exact HB.out | apply below_alloc | apply pw_below_drewN | apply below_drew1 | refine below_set ?_ GE199.out) | exact HB.out))) : w.heap.size ≤ gb212))
                  have n4_ := Aside0.mk ((by rw [hg]; exact (below_size (by repeat (first | (with_reducible first | exact HB.out | apply below_alloc | apply pw_below_drewN | apply below_drew1 | refine below_set ?_ GE199.out) | exact HB.out))) : w.heap.size ≤ gb212))
                  have n5_ := Aside0.mk ((by rw [hg]; exact Nat.ne_of_lt (blk_lt (g := gb199) (o := .cells #[.int .i64 x200000_1, .int .i64 x200001_1, .int .i64 x200002_1] 25 (0, 0)) (by (with_reducible repeat (first | refine blk_drewN ?_ _ | refine blk_drew ?_ | refine blk_alloc ?_ _)); exact BK199.out)) : gb199 ≠ gb212))
                  have n6_ := Aside0.mk ((by rw [hg]; exact Nat.ne_of_gt (blk_lt (g := gb199) (o := .cells #[.int .i64 x200000_1, .int .i64 x200001_1, .int .i64 x200002_1] 25 (0, 0)) (by (with_reducible repeat (first | refine blk_drewN ?_ _ | refine blk_drew ?_ | refine blk_alloc ?_ _)); exact BK199.out)) : gb212 ≠ gb199))
                  clear BK199
                  clear HB
                  have BK199 := n0_
                  have HB := n1_
                  have BK212 := n2_
                  have GW212 := n3_
                  have GE212 := n4_
                  have NB199_212 := n5_
                  have NB212_199 := n6_
                  clear n0_ n1_ n2_ n3_ n4_ n5_ n6_
                  clear hb hbox hg
                  refine hK.out _ _ ⟨(blk_cell BK199.out 0).trans rfl, (blk_cell BK199.out 1).trans rfl, (blk_cell BK199.out 2).trans rfl, ((HB.out.cell (World.block_lt_of_cell? w _ hw205_0)).trans hw205_0)⟩ (fun hHeld => ?_)
                  clear hK K
                  refine norm_ (a' := ?_) ?_ ?_
                  rotate_left
                  · show Act.put _ (some 6) _ = _
                    simp only [Act.put, List.setIfInBounds_toArray, List.set_cons_zero, List.set_cons_succ, i64_w, i32_w]
                    rfl
                  refine one_ (i := 5) (N := some 24) #[true, true, true, true, true, true, false, false, false, true, false, false] rfl rfl (one_of HT_.out (by kernel_rfl)) (by decide) (fun K hK => ?_)
                  refine goes_ Try.func7 (by kernel_rfl) rfl #[.agg #[.int .i64 x200000_1, .int .i64 x200001_1, .int .i64 x200002_1], .int .u8 (rd l0 x15_1)] (by rfl) rfl rfl (by (try simp only [List.map_toArray, List.map_cons, List.map_nil]); first | done | rfl | (simp only [List.length_drop, List.length_take]; rfl)) ?_
                  with_reducible refine (utfd_Step.calls k1 x200000_1 x200001_1 x200002_1 (rd l0 x15_1) t206 t207 t208 t209 _ A10.out).mono ?_
                  rintro e w14 ⟨v210, rfl, ho0, hb⟩
                  refine ⟨_, rfl, ?_⟩
                  have n0_ := Aside0.mk (Kd.R_lower ho0 (below_size (by repeat (first | (with_reducible first | exact HB.out | apply below_alloc | apply pw_below_drewN | apply below_drew1 | refine below_set ?_ GE199.out | refine below_set ?_ GE212.out) | exact HB.out))))
                  have n1_ := Aside0.mk (blk_below (g := gb199) (o := .cells #[.int .i64 x200000_1, .int .i64 x200001_1, .int .i64 x200002_1] 25 (0, 0)) (by (with_reducible repeat (first | refine blk_drewN ?_ _ | refine blk_drew ?_ | refine blk_alloc ?_ _)); exact BK199.out) hb)
                  have n2_ := Aside0.mk (blk_below (g := gb212) (o := .cells #[.int .i64 0, .int .i64 0, .int .i64 0] 25 (0, 0)) (by (with_reducible repeat (first | refine blk_drewN ?_ _ | refine blk_drew ?_ | refine blk_alloc ?_ _)); exact BK212.out) hb)
                  have n3_ := Aside0.mk (below_step (by repeat (first | (with_reducible first | exact HB.out | apply below_alloc | apply pw_below_drewN | apply below_drew1 | refine below_set ?_ GE199.out | refine below_set ?_ GE212.out) | exact HB.out)) hb)
                  clear BK199
                  clear BK212
                  clear HB
                  have HO211 := n0_
                  have BK199 := n1_
                  have BK212 := n2_
                  have HB := n3_
                  clear n0_ n1_ n2_ n3_
                  (try clear hb)
                  (try clear hb2)
                  (try clear hk)
                  (try clear hi)
                  (try clear ho0)
                  refine hK.out _ _ ⟨(blk_cell BK199.out 0).trans rfl, (blk_cell BK199.out 1).trans rfl, (blk_cell BK199.out 2).trans rfl, ((HB.out.cell (World.block_lt_of_cell? w _ hw205_0)).trans hw205_0)⟩ (fun hHeld => ?_)
                  clear hK K
                  refine norm_ (a' := ?_) ?_ ?_
                  rotate_left
                  · show Act.put _ (some 24) _ = _
                    simp only [Act.put, List.setIfInBounds_toArray, List.set_cons_zero, List.set_cons_succ, i64_w, i32_w]
                    rfl
                  refine pure_ (i := 6) (N := some 18) (v := ?_) (a' := ?_) #[true, true, true, true, true, true, true, false, false, true, false, false] rfl rfl (any_of HT_.out (by kernel_rfl)) (fun _ _ _ h => h) (Or.inl ⟨by rfl, ?_⟩) ?_ ?_
                  rotate_left
                  · intro w'
                    go_simp
                    with_reducible rfl
                  rotate_left
                  · simp only [Act.put, List.setIfInBounds_toArray, List.set_cons_zero, List.set_cons_succ, i64_w, i32_w]
                    rfl
                  refine pure_ (i := 7) (N := some 25) (v := ?_) (a' := ?_) #[true, true, true, true, true, true, true, true, false, true, false, false] rfl rfl (any_of HT_.out (by kernel_rfl)) (fun _ _ _ h => h) (Or.inl ⟨by rfl, ?_⟩) ?_ ?_
                  rotate_left
                  · intro w'
                    go_simp
                    with_reducible rfl
                  rotate_left
                  · simp only [Act.put, List.setIfInBounds_toArray, List.set_cons_zero, List.set_cons_succ, i64_w, i32_w]
                    rfl
                  refine pure_ (i := 8) (N := some 26) (v := ?_) (a' := ?_) #[true, true, true, true, true, true, true, true, true, true, false, false] rfl rfl (any_of HT_.out (by kernel_rfl)) (fun _ _ _ h => h) (Or.inl ⟨by rfl, ?_⟩) ?_ ?_
                  rotate_left
                  · intro w'
                    go_simp
                    with_reducible rfl
                  rotate_left
                  · simp only [Act.put, List.setIfInBounds_toArray, List.set_cons_zero, List.set_cons_succ, i64_w, i32_w]
                    rfl
                  exact norm_ (by simp only [putAll, Act.put, List.setIfInBounds_toArray, List.set_cons_zero, List.set_cons_succ]) (hCont (v210, gb212) _ ⟨hHeld, (by (with_reducible repeat (first | apply Kd.R_alloc | apply Kd.R_drewN | apply Kd.R_drew)); exact HO211.out), (by (with_reducible repeat (first | refine blk_drewN ?_ _ | refine blk_drew ?_ | refine blk_alloc ?_ _)); exact BK199.out), (by (with_reducible repeat (first | refine blk_drewN ?_ _ | refine blk_drew ?_ | refine blk_alloc ?_ _)); exact BK212.out), GW212.out, GE212.out, NB199_212.out, NB212_199.out, (by repeat (first | (with_reducible first | exact HB.out | apply below_alloc | apply pw_below_drewN | apply below_drew1 | refine below_set ?_ GE199.out | refine below_set ?_ GE212.out) | exact HB.out))⟩)
              rintro ⟨v210, gb212⟩ w15 ⟨hS_, h0_, h1_, h2_, h3_, h4_, h5_, h6_, h7_⟩
              have n0_ : Aside0 (Kd.R (Kd.int .i32) 21 w15 w.heap.size (fun _ => True) v210 t209) := ⟨h0_⟩
              have n1_ : Aside0 (w15.heap[gb199]? = some (.cells #[.int .i64 x200000_1, .int .i64 x200001_1, .int .i64 x200002_1] 25 (0, 0))) := ⟨h1_⟩
              have n2_ : Aside0 (w15.heap[gb212]? = some (.cells #[.int .i64 0, .int .i64 0, .int .i64 0] 25 (0, 0))) := ⟨h2_⟩
              have n3_ : Aside0 (w.heap.size ≤ gb212) := ⟨h3_⟩
              have n4_ : Aside0 (w.heap.size ≤ gb212) := ⟨h4_⟩
              have n5_ : Aside0 (gb199 ≠ gb212) := ⟨h5_⟩
              have n6_ : Aside0 (gb212 ≠ gb199) := ⟨h6_⟩
              have n7_ : Aside0 (Below w.heap.size w w15) := ⟨h7_⟩
              clear BK199
              clear HB
              clear h0_ h1_ h2_ h3_ h4_ h5_ h6_ h7_
              have HO211 := n0_
              have BK199 := n1_
              have BK212 := n2_
              have GW212 := n3_
              have GE212 := n4_
              have NB199_212 := n5_
              have NB212_199 := n6_
              have HB := n7_
              clear n0_ n1_ n2_ n3_ n4_ n5_ n6_ n7_
              have hHeld : w15.cell? ⟨gb199, 0, none⟩ = some (.int .i64 x200000_1) ∧ w15.cell? ⟨gb199, 1, none⟩ = some (.int .i64 x200001_1) ∧ w15.cell? ⟨gb199, 2, none⟩ = some (.int .i64 x200002_1) ∧ w15.cell? (ad205.add (x15_1).toNat) = some (.int .u8 (rd l0 x15_1)) := hS_
              refine norm_ (a' := ?_) ?_ ?_
              rotate_left
              · simp only [putAll, Act.put, List.setIfInBounds_toArray, List.set_cons_zero, List.set_cons_succ]
                rfl
              refine one_ (i := 10) (N := none) #[true, true, true, true, true, true, true, true, true, true, true, false] rfl rfl (one_of HT_.out (by kernel_rfl)) (by decide) (fun K hK => ?_)
              have hs16 : w15.cell? ⟨gb212, 0, none⟩ = some (.int .i64 0) := (blk_cell BK212.out 0).trans rfl
              have hfs16 := blk_frozen BK212.out 0
              have hns16_0 := NB199_212.out
              have hms16_0 := NB212_199.out
              have hs17 : w15.cell? ⟨gb212, 1, none⟩ = some (.int .i64 0) := (blk_cell BK212.out 1).trans rfl
              have hfs17 := blk_frozen BK212.out 1
              have hns17_0 := NB199_212.out
              have hms17_0 := NB212_199.out
              have hs18 : w15.cell? ⟨gb212, 2, none⟩ = some (.int .i64 0) := (blk_cell BK212.out 2).trans rfl
              have hfs18 := blk_frozen BK212.out 2
              have hns18_0 := NB199_212.out
              have hms18_0 := NB212_199.out
              refine skip_ (w1 := ?_) (by rfl) rfl ?_ ?_
              rotate_left
              · go_simp
                rfl
              refine hK.out _ _ ⟨((cell_far (p := ⟨gb212, _, none⟩) NB199_212.out _).trans (((cell_far (p := ⟨gb212, _, none⟩) NB199_212.out _).trans (((cell_far (p := ⟨gb212, _, none⟩) NB199_212.out _).trans (hHeld.1)))))), ((cell_far (p := ⟨gb212, _, none⟩) NB199_212.out _).trans (((cell_far (p := ⟨gb212, _, none⟩) NB199_212.out _).trans (((cell_far (p := ⟨gb212, _, none⟩) NB199_212.out _).trans (hHeld.2.1)))))), ((cell_far (p := ⟨gb212, _, none⟩) NB199_212.out _).trans (((cell_far (p := ⟨gb212, _, none⟩) NB199_212.out _).trans (((cell_far (p := ⟨gb212, _, none⟩) NB199_212.out _).trans (hHeld.2.2.1)))))), ((cell_far (p := ⟨gb212, _, none⟩) (by first | exact Nat.ne_of_lt (Nat.lt_of_lt_of_le (by have := World.block_lt_of_cell? _ _ hw205_0; first | rwa [add_block] at this | exact this) GW212.out) | (rw [add_block]; exact Nat.ne_of_lt (Nat.lt_of_lt_of_le (by have := World.block_lt_of_cell? _ _ hw205_0; first | rwa [add_block] at this | exact this) GW212.out)) | (show (Addr.add _ _).block ≠ _; rw [add_block]; exact Nat.ne_of_lt (Nat.lt_of_lt_of_le (by have := World.block_lt_of_cell? _ _ hw205_0; first | rwa [add_block] at this | exact this) GW212.out)) | (dsimp only; exact Nat.ne_of_lt (Nat.lt_of_lt_of_le (by have := World.block_lt_of_cell? _ _ hw205_0; first | rwa [add_block] at this | exact this) GW212.out))) _).trans (((cell_far (p := ⟨gb212, _, none⟩) (by first | exact Nat.ne_of_lt (Nat.lt_of_lt_of_le (by have := World.block_lt_of_cell? _ _ hw205_0; first | rwa [add_block] at this | exact this) GW212.out) | (rw [add_block]; exact Nat.ne_of_lt (Nat.lt_of_lt_of_le (by have := World.block_lt_of_cell? _ _ hw205_0; first | rwa [add_block] at this | exact this) GW212.out)) | (show (Addr.add _ _).block ≠ _; rw [add_block]; exact Nat.ne_of_lt (Nat.lt_of_lt_of_le (by have := World.block_lt_of_cell? _ _ hw205_0; first | rwa [add_block] at this | exact this) GW212.out)) | (dsimp only; exact Nat.ne_of_lt (Nat.lt_of_lt_of_le (by have := World.block_lt_of_cell? _ _ hw205_0; first | rwa [add_block] at this | exact this) GW212.out))) _).trans (((cell_far (p := ⟨gb212, _, none⟩) (by first | exact Nat.ne_of_lt (Nat.lt_of_lt_of_le (by have := World.block_lt_of_cell? _ _ hw205_0; first | rwa [add_block] at this | exact this) GW212.out) | (rw [add_block]; exact Nat.ne_of_lt (Nat.lt_of_lt_of_le (by have := World.block_lt_of_cell? _ _ hw205_0; first | rwa [add_block] at this | exact this) GW212.out)) | (show (Addr.add _ _).block ≠ _; rw [add_block]; exact Nat.ne_of_lt (Nat.lt_of_lt_of_le (by have := World.block_lt_of_cell? _ _ hw205_0; first | rwa [add_block] at this | exact this) GW212.out)) | (dsimp only; exact Nat.ne_of_lt (Nat.lt_of_lt_of_le (by have := World.block_lt_of_cell? _ _ hw205_0; first | rwa [add_block] at this | exact this) GW212.out))) _).trans (hHeld.2.2.2))))))⟩ (fun hHeld => ?_)
              clear hK K
              refine pure_ (i := 11) (N := some 7) (v := ?_) (a' := ?_) #[true, true, true, true, true, true, true, true, true, true, true, true] rfl rfl (any_of HT_.out (by kernel_rfl)) (fun _ _ _ h => h) (Or.inl ⟨by rfl, ?_⟩) ?_ ?_
              rotate_left
              · intro w'
                go_simp
                with_reducible rfl
              rotate_left
              · simp only [Act.put, List.setIfInBounds_toArray, List.set_cons_zero, List.set_cons_succ, i64_w, i32_w]
                rfl
              refine done_ (done_of HT_.out (by kernel_rfl)) ?_
              go_upto_region 9 with (fail)
              go_cut [54] (fun v54 wc => ∃ (kq : Nat) (x54_10 : Bool), v54 = .bool x54_10 ∧ Aside0 (polyptychlaw1_UtfdCounts.j1 kq l0 x4_1 t209 (l0.length : Int) x15_1 x54_10 t206 t207 t208 = some r) ∧ Aside0 (kq ≤ k1) ∧ Aside0 (Kd.R (Kd.int .i32) 21 wc w.heap.size (fun _ => True) v210 t209) ∧ Aside0 (wc.heap[gb199]? = some (.cells #[.int .i64 x200000_1, .int .i64 x200001_1, .int .i64 x200002_1] 25 (0, 0))) ∧ Aside0 (wc.heap[gb212]? = some (.cells #[.int .i64 t206, .int .i64 t207, .int .i64 t208] 25 (0, 0))) ∧ Aside0 (Below w.heap.size w wc))
              case first =>
                have H := HC11.out
                clear HC11
                by_cases c19 : (t209.length : Int) > 2
                · rw [if_pos c19] at H
                  have c19b0 : decide (2 < (t209.length : Int)) = true := decide_eq_true c19
                  have c19b1 : decide (2 < t209.length) = true := decide_eq_true (by omega)
                  clear c19
                  (first | rw [c19b0] | (simp only [i64_w, i32_w]; rw [c19b0]) | skip)
                  have H' := Aside0.mk H
                  clear H
                  obtain ⟨Ao20, co20, eo20⟩ := Kd.R_slice HO211.out
                  subst eo20
                  go_wp2
                  go_meet
                  case rel => exact ⟨_, (true), (by first | rfl | (simp; done) | (simp [*]; done)), H', ⟨by have := HK1.out; first | omega | exact Nat.le_refl _⟩, ⟨by (with_reducible repeat (first | apply Kd.R_alloc | apply Kd.R_drewN | apply Kd.R_drew)); exact Kd.R_mono (Kd.R_far (p := ⟨gb212, 2, none⟩) (Kd.R_far (p := ⟨gb212, 1, none⟩) (Kd.R_far (p := ⟨gb212, 0, none⟩) (Kd.R_types HO211.out BK212.out (by decide)) (fun _ hk => hk.2) (.int .i64 t206)) (fun _ hk => hk.2) (.int .i64 t207)) (fun _ hk => hk.2) (.int .i64 t208)) (fun _ hk => trivial)⟩, ⟨by (with_reducible repeat (first | refine blk_drewN ?_ _ | refine blk_drew ?_ | refine blk_alloc ?_ _)); refine blk_far ?_ NB199_212.out _; (with_reducible repeat (first | refine blk_drewN ?_ _ | refine blk_drew ?_ | refine blk_alloc ?_ _)); refine blk_far ?_ NB199_212.out _; (with_reducible repeat (first | refine blk_drewN ?_ _ | refine blk_drew ?_ | refine blk_alloc ?_ _)); refine blk_far ?_ NB199_212.out _; (with_reducible repeat (first | refine blk_drewN ?_ _ | refine blk_drew ?_ | refine blk_alloc ?_ _)); exact BK199.out⟩, ⟨by (with_reducible repeat (first | refine blk_drewN ?_ _ | refine blk_drew ?_ | refine blk_alloc ?_ _)); refine blk_put (cs := #[.int .i64 t206, .int .i64 t207, .int .i64 0]) ?_ 2 _ rfl; (with_reducible repeat (first | refine blk_drewN ?_ _ | refine blk_drew ?_ | refine blk_alloc ?_ _)); refine blk_put (cs := #[.int .i64 t206, .int .i64 0, .int .i64 0]) ?_ 1 _ rfl; (with_reducible repeat (first | refine blk_drewN ?_ _ | refine blk_drew ?_ | refine blk_alloc ?_ _)); refine blk_put (cs := #[.int .i64 0, .int .i64 0, .int .i64 0]) ?_ 0 _ rfl; (with_reducible repeat (first | refine blk_drewN ?_ _ | refine blk_drew ?_ | refine blk_alloc ?_ _)); exact BK212.out⟩, ⟨by repeat (first | (with_reducible first | exact HB.out | apply below_alloc | apply pw_below_drewN | apply below_drew1 | refine below_set ?_ GE199.out | refine below_set ?_ GE212.out) | exact HB.out)⟩⟩
                · rw [if_neg c19] at H
                  have c19b0 : decide (2 < (t209.length : Int)) = false := decide_eq_false c19
                  have c19b1 : decide (2 < t209.length) = false := decide_eq_false (by omega)
                  clear c19
                  (first | rw [c19b0] | (simp only [i64_w, i32_w]; rw [c19b0]) | skip)
                  by_cases c21 : t206 < 0
                  · rw [if_pos c21] at H
                    have c21b0 : decide (t206 < 0) = true := decide_eq_true c21
                    clear c21
                    have H' := Aside0.mk H
                    clear H
                    obtain ⟨Ao22, co22, eo22⟩ := Kd.R_slice HO211.out
                    subst eo22
                    have hnb23 := NB212_199.out
                    have hnc23 := NB199_212.out
                    have hcz24_0 : w15.cell? ⟨gb212, 0, none⟩ = some (.int .i64 0) := (blk_cell BK212.out 0).trans rfl
                    have hcz24_1 : w15.cell? ⟨gb212, 1, none⟩ = some (.int .i64 0) := (blk_cell BK212.out 1).trans rfl
                    have hcz24_2 : w15.cell? ⟨gb212, 2, none⟩ = some (.int .i64 0) := (blk_cell BK212.out 2).trans rfl
                    have hfz24_0 := blk_frozen BK212.out 0
                    have hfz24_1 := blk_frozen BK212.out 1
                    have hfz24_2 := blk_frozen BK212.out 2
                    go_wp2
                    go_meet
                    case rel => exact ⟨_, (true), (by first | rfl | (simp; done) | (simp [*]; done)), H', ⟨by have := HK1.out; first | omega | exact Nat.le_refl _⟩, ⟨by (with_reducible repeat (first | apply Kd.R_alloc | apply Kd.R_drewN | apply Kd.R_drew)); exact Kd.R_mono (Kd.R_far (p := ⟨gb212, 2, none⟩) (Kd.R_far (p := ⟨gb212, 1, none⟩) (Kd.R_far (p := ⟨gb212, 0, none⟩) (Kd.R_types HO211.out BK212.out (by decide)) (fun _ hk => hk.2) (.int .i64 t206)) (fun _ hk => hk.2) (.int .i64 t207)) (fun _ hk => hk.2) (.int .i64 t208)) (fun _ hk => trivial)⟩, ⟨by (with_reducible repeat (first | refine blk_drewN ?_ _ | refine blk_drew ?_ | refine blk_alloc ?_ _)); refine blk_far ?_ NB199_212.out _; (with_reducible repeat (first | refine blk_drewN ?_ _ | refine blk_drew ?_ | refine blk_alloc ?_ _)); refine blk_far ?_ NB199_212.out _; (with_reducible repeat (first | refine blk_drewN ?_ _ | refine blk_drew ?_ | refine blk_alloc ?_ _)); refine blk_far ?_ NB199_212.out _; (with_reducible repeat (first | refine blk_drewN ?_ _ | refine blk_drew ?_ | refine blk_alloc ?_ _)); exact BK199.out⟩, ⟨by (with_reducible repeat (first | refine blk_drewN ?_ _ | refine blk_drew ?_ | refine blk_alloc ?_ _)); refine blk_put (cs := #[.int .i64 t206, .int .i64 t207, .int .i64 0]) ?_ 2 _ rfl; (with_reducible repeat (first | refine blk_drewN ?_ _ | refine blk_drew ?_ | refine blk_alloc ?_ _)); refine blk_put (cs := #[.int .i64 t206, .int .i64 0, .int .i64 0]) ?_ 1 _ rfl; (with_reducible repeat (first | refine blk_drewN ?_ _ | refine blk_drew ?_ | refine blk_alloc ?_ _)); refine blk_put (cs := #[.int .i64 0, .int .i64 0, .int .i64 0]) ?_ 0 _ rfl; (with_reducible repeat (first | refine blk_drewN ?_ _ | refine blk_drew ?_ | refine blk_alloc ?_ _)); exact BK212.out⟩, ⟨by repeat (first | (with_reducible first | exact HB.out | apply below_alloc | apply pw_below_drewN | apply below_drew1 | refine below_set ?_ GE199.out | refine below_set ?_ GE212.out) | exact HB.out)⟩⟩
                  · rw [if_neg c21] at H
                    have c21b0 : decide (t206 < 0) = false := decide_eq_false c21
                    clear c21
                    by_cases c25 : t206 > 3
                    · rw [if_pos c25] at H
                      have c25b0 : decide (3 < t206) = true := decide_eq_true c25
                      clear c25
                      have H' := Aside0.mk H
                      clear H
                      obtain ⟨Ao26, co26, eo26⟩ := Kd.R_slice HO211.out
                      subst eo26
                      have hnb27 := NB212_199.out
                      have hnc27 := NB199_212.out
                      have hcz28_0 : w15.cell? ⟨gb212, 0, none⟩ = some (.int .i64 0) := (blk_cell BK212.out 0).trans rfl
                      have hcz28_1 : w15.cell? ⟨gb212, 1, none⟩ = some (.int .i64 0) := (blk_cell BK212.out 1).trans rfl
                      have hcz28_2 : w15.cell? ⟨gb212, 2, none⟩ = some (.int .i64 0) := (blk_cell BK212.out 2).trans rfl
                      have hfz28_0 := blk_frozen BK212.out 0
                      have hfz28_1 := blk_frozen BK212.out 1
                      have hfz28_2 := blk_frozen BK212.out 2
                      go_wp2
                      go_meet
                      case rel => exact ⟨_, (true), (by first | rfl | (simp; done) | (simp [*]; done)), H', ⟨by have := HK1.out; first | omega | exact Nat.le_refl _⟩, ⟨by (with_reducible repeat (first | apply Kd.R_alloc | apply Kd.R_drewN | apply Kd.R_drew)); exact Kd.R_mono (Kd.R_far (p := ⟨gb212, 2, none⟩) (Kd.R_far (p := ⟨gb212, 1, none⟩) (Kd.R_far (p := ⟨gb212, 0, none⟩) (Kd.R_types HO211.out BK212.out (by decide)) (fun _ hk => hk.2) (.int .i64 t206)) (fun _ hk => hk.2) (.int .i64 t207)) (fun _ hk => hk.2) (.int .i64 t208)) (fun _ hk => trivial)⟩, ⟨by (with_reducible repeat (first | refine blk_drewN ?_ _ | refine blk_drew ?_ | refine blk_alloc ?_ _)); refine blk_far ?_ NB199_212.out _; (with_reducible repeat (first | refine blk_drewN ?_ _ | refine blk_drew ?_ | refine blk_alloc ?_ _)); refine blk_far ?_ NB199_212.out _; (with_reducible repeat (first | refine blk_drewN ?_ _ | refine blk_drew ?_ | refine blk_alloc ?_ _)); refine blk_far ?_ NB199_212.out _; (with_reducible repeat (first | refine blk_drewN ?_ _ | refine blk_drew ?_ | refine blk_alloc ?_ _)); exact BK199.out⟩, ⟨by (with_reducible repeat (first | refine blk_drewN ?_ _ | refine blk_drew ?_ | refine blk_alloc ?_ _)); refine blk_put (cs := #[.int .i64 t206, .int .i64 t207, .int .i64 0]) ?_ 2 _ rfl; (with_reducible repeat (first | refine blk_drewN ?_ _ | refine blk_drew ?_ | refine blk_alloc ?_ _)); refine blk_put (cs := #[.int .i64 t206, .int .i64 0, .int .i64 0]) ?_ 1 _ rfl; (with_reducible repeat (first | refine blk_drewN ?_ _ | refine blk_drew ?_ | refine blk_alloc ?_ _)); refine blk_put (cs := #[.int .i64 0, .int .i64 0, .int .i64 0]) ?_ 0 _ rfl; (with_reducible repeat (first | refine blk_drewN ?_ _ | refine blk_drew ?_ | refine blk_alloc ?_ _)); exact BK212.out⟩, ⟨by repeat (first | (with_reducible first | exact HB.out | apply below_alloc | apply pw_below_drewN | apply below_drew1 | refine below_set ?_ GE199.out | refine below_set ?_ GE212.out) | exact HB.out)⟩⟩
                    · rw [if_neg c25] at H
                      have c25b0 : decide (3 < t206) = false := decide_eq_false c25
                      clear c25
                      by_cases c29 : t206 = 0
                      · rw [if_pos c29] at H
                        have c29b0 : (t206 == 0) = true := beq_iff_eq.mpr c29
                        have c29b1 : (t206 != 0) = false := bne_eq_false_iff_eq.mpr c29
                        clear c29
                        by_cases c30 : (t209.length : Int) = 0
                        · rw [if_pos c30] at H
                          have c30b0 : ((t209.length : Int) == 0) = true := beq_iff_eq.mpr c30
                          have c30b1 : ((t209.length : Int) != 0) = false := bne_eq_false_iff_eq.mpr c30
                          clear c30
                          have H' := Aside0.mk H
                          clear H
                          obtain ⟨Ao31, co31, eo31⟩ := Kd.R_slice HO211.out
                          subst eo31
                          have hnb32 := NB212_199.out
                          have hnc32 := NB199_212.out
                          have hcz33_0 : w15.cell? ⟨gb212, 0, none⟩ = some (.int .i64 0) := (blk_cell BK212.out 0).trans rfl
                          have hcz33_1 : w15.cell? ⟨gb212, 1, none⟩ = some (.int .i64 0) := (blk_cell BK212.out 1).trans rfl
                          have hcz33_2 : w15.cell? ⟨gb212, 2, none⟩ = some (.int .i64 0) := (blk_cell BK212.out 2).trans rfl
                          have hfz33_0 := blk_frozen BK212.out 0
                          have hfz33_1 := blk_frozen BK212.out 1
                          have hfz33_2 := blk_frozen BK212.out 2
                          go_wp2
                          go_meet
                          case rel => exact ⟨_, (true), (by first | rfl | (simp; done) | (simp [*]; done)), H', ⟨by have := HK1.out; first | omega | exact Nat.le_refl _⟩, ⟨by (with_reducible repeat (first | apply Kd.R_alloc | apply Kd.R_drewN | apply Kd.R_drew)); exact Kd.R_mono (Kd.R_far (p := ⟨gb212, 2, none⟩) (Kd.R_far (p := ⟨gb212, 1, none⟩) (Kd.R_far (p := ⟨gb212, 0, none⟩) (Kd.R_types HO211.out BK212.out (by decide)) (fun _ hk => hk.2) (.int .i64 t206)) (fun _ hk => hk.2) (.int .i64 t207)) (fun _ hk => hk.2) (.int .i64 t208)) (fun _ hk => trivial)⟩, ⟨by (with_reducible repeat (first | refine blk_drewN ?_ _ | refine blk_drew ?_ | refine blk_alloc ?_ _)); refine blk_far ?_ NB199_212.out _; (with_reducible repeat (first | refine blk_drewN ?_ _ | refine blk_drew ?_ | refine blk_alloc ?_ _)); refine blk_far ?_ NB199_212.out _; (with_reducible repeat (first | refine blk_drewN ?_ _ | refine blk_drew ?_ | refine blk_alloc ?_ _)); refine blk_far ?_ NB199_212.out _; (with_reducible repeat (first | refine blk_drewN ?_ _ | refine blk_drew ?_ | refine blk_alloc ?_ _)); exact BK199.out⟩, ⟨by (with_reducible repeat (first | refine blk_drewN ?_ _ | refine blk_drew ?_ | refine blk_alloc ?_ _)); refine blk_put (cs := #[.int .i64 t206, .int .i64 t207, .int .i64 0]) ?_ 2 _ rfl; (with_reducible repeat (first | refine blk_drewN ?_ _ | refine blk_drew ?_ | refine blk_alloc ?_ _)); refine blk_put (cs := #[.int .i64 t206, .int .i64 0, .int .i64 0]) ?_ 1 _ rfl; (with_reducible repeat (first | refine blk_drewN ?_ _ | refine blk_drew ?_ | refine blk_alloc ?_ _)); refine blk_put (cs := #[.int .i64 0, .int .i64 0, .int .i64 0]) ?_ 0 _ rfl; (with_reducible repeat (first | refine blk_drewN ?_ _ | refine blk_drew ?_ | refine blk_alloc ?_ _)); exact BK212.out⟩, ⟨by repeat (first | (with_reducible first | exact HB.out | apply below_alloc | apply pw_below_drewN | apply below_drew1 | refine below_set ?_ GE199.out | refine below_set ?_ GE212.out) | exact HB.out)⟩⟩
                        · rw [if_neg c30] at H
                          have c30b0 : ((t209.length : Int) == 0) = false := beq_eq_false_iff_ne.mpr c30
                          have c30b1 : ((t209.length : Int) != 0) = true := bne_iff_ne.mpr c30
                          have c30b2 : ¬ (t209 = []) := fun h_ => c30 (by rw [h_]; rfl)
                          have H' := Aside0.mk H
                          clear H
                          obtain ⟨Ao34, co34, eo34⟩ := Kd.R_slice HO211.out
                          subst eo34
                          have hnb35 := NB212_199.out
                          have hnc35 := NB199_212.out
                          have hcz36_0 : w15.cell? ⟨gb212, 0, none⟩ = some (.int .i64 0) := (blk_cell BK212.out 0).trans rfl
                          have hcz36_1 : w15.cell? ⟨gb212, 1, none⟩ = some (.int .i64 0) := (blk_cell BK212.out 1).trans rfl
                          have hcz36_2 : w15.cell? ⟨gb212, 2, none⟩ = some (.int .i64 0) := (blk_cell BK212.out 2).trans rfl
                          have hfz36_0 := blk_frozen BK212.out 0
                          have hfz36_1 := blk_frozen BK212.out 1
                          have hfz36_2 := blk_frozen BK212.out 2
                          go_wp2
                          go_meet
                          case rel => exact ⟨_, ((!(t206 == 0) || (!(t207 == 0) || (!(t208 == 0))))), (by first | rfl | (simp; done) | (simp [*]; done)), H', ⟨by have := HK1.out; first | omega | exact Nat.le_refl _⟩, ⟨by (with_reducible repeat (first | apply Kd.R_alloc | apply Kd.R_drewN | apply Kd.R_drew)); exact Kd.R_mono (Kd.R_far (p := ⟨gb212, 2, none⟩) (Kd.R_far (p := ⟨gb212, 1, none⟩) (Kd.R_far (p := ⟨gb212, 0, none⟩) (Kd.R_types HO211.out BK212.out (by decide)) (fun _ hk => hk.2) (.int .i64 t206)) (fun _ hk => hk.2) (.int .i64 t207)) (fun _ hk => hk.2) (.int .i64 t208)) (fun _ hk => trivial)⟩, ⟨by (with_reducible repeat (first | refine blk_drewN ?_ _ | refine blk_drew ?_ | refine blk_alloc ?_ _)); refine blk_far ?_ NB199_212.out _; (with_reducible repeat (first | refine blk_drewN ?_ _ | refine blk_drew ?_ | refine blk_alloc ?_ _)); refine blk_far ?_ NB199_212.out _; (with_reducible repeat (first | refine blk_drewN ?_ _ | refine blk_drew ?_ | refine blk_alloc ?_ _)); refine blk_far ?_ NB199_212.out _; (with_reducible repeat (first | refine blk_drewN ?_ _ | refine blk_drew ?_ | refine blk_alloc ?_ _)); exact BK199.out⟩, ⟨by (with_reducible repeat (first | refine blk_drewN ?_ _ | refine blk_drew ?_ | refine blk_alloc ?_ _)); refine blk_put (cs := #[.int .i64 t206, .int .i64 t207, .int .i64 0]) ?_ 2 _ rfl; (with_reducible repeat (first | refine blk_drewN ?_ _ | refine blk_drew ?_ | refine blk_alloc ?_ _)); refine blk_put (cs := #[.int .i64 t206, .int .i64 0, .int .i64 0]) ?_ 1 _ rfl; (with_reducible repeat (first | refine blk_drewN ?_ _ | refine blk_drew ?_ | refine blk_alloc ?_ _)); refine blk_put (cs := #[.int .i64 0, .int .i64 0, .int .i64 0]) ?_ 0 _ rfl; (with_reducible repeat (first | refine blk_drewN ?_ _ | refine blk_drew ?_ | refine blk_alloc ?_ _)); exact BK212.out⟩, ⟨by repeat (first | (with_reducible first | exact HB.out | apply below_alloc | apply pw_below_drewN | apply below_drew1 | refine below_set ?_ GE199.out | refine below_set ?_ GE212.out) | exact HB.out)⟩⟩
                      · rw [if_neg c29] at H
                        have c29b0 : (t206 == 0) = false := beq_eq_false_iff_ne.mpr c29
                        have c29b1 : (t206 != 0) = true := bne_iff_ne.mpr c29
                        have H' := Aside0.mk H
                        clear H
                        obtain ⟨Ao37, co37, eo37⟩ := Kd.R_slice HO211.out
                        subst eo37
                        have hnb38 := NB212_199.out
                        have hnc38 := NB199_212.out
                        have hcz39_0 : w15.cell? ⟨gb212, 0, none⟩ = some (.int .i64 0) := (blk_cell BK212.out 0).trans rfl
                        have hcz39_1 : w15.cell? ⟨gb212, 1, none⟩ = some (.int .i64 0) := (blk_cell BK212.out 1).trans rfl
                        have hcz39_2 : w15.cell? ⟨gb212, 2, none⟩ = some (.int .i64 0) := (blk_cell BK212.out 2).trans rfl
                        have hfz39_0 := blk_frozen BK212.out 0
                        have hfz39_1 := blk_frozen BK212.out 1
                        have hfz39_2 := blk_frozen BK212.out 2
                        go_wp2
                        go_meet
                        case rel => exact ⟨_, (false), (by first | rfl | (simp; done) | (simp [*]; done)), H', ⟨by have := HK1.out; first | omega | exact Nat.le_refl _⟩, ⟨by (with_reducible repeat (first | apply Kd.R_alloc | apply Kd.R_drewN | apply Kd.R_drew)); exact Kd.R_mono (Kd.R_far (p := ⟨gb212, 2, none⟩) (Kd.R_far (p := ⟨gb212, 1, none⟩) (Kd.R_far (p := ⟨gb212, 0, none⟩) (Kd.R_types HO211.out BK212.out (by decide)) (fun _ hk => hk.2) (.int .i64 t206)) (fun _ hk => hk.2) (.int .i64 t207)) (fun _ hk => hk.2) (.int .i64 t208)) (fun _ hk => trivial)⟩, ⟨by (with_reducible repeat (first | refine blk_drewN ?_ _ | refine blk_drew ?_ | refine blk_alloc ?_ _)); refine blk_far ?_ NB199_212.out _; (with_reducible repeat (first | refine blk_drewN ?_ _ | refine blk_drew ?_ | refine blk_alloc ?_ _)); refine blk_far ?_ NB199_212.out _; (with_reducible repeat (first | refine blk_drewN ?_ _ | refine blk_drew ?_ | refine blk_alloc ?_ _)); refine blk_far ?_ NB199_212.out _; (with_reducible repeat (first | refine blk_drewN ?_ _ | refine blk_drew ?_ | refine blk_alloc ?_ _)); exact BK199.out⟩, ⟨by (with_reducible repeat (first | refine blk_drewN ?_ _ | refine blk_drew ?_ | refine blk_alloc ?_ _)); refine blk_put (cs := #[.int .i64 t206, .int .i64 t207, .int .i64 0]) ?_ 2 _ rfl; (with_reducible repeat (first | refine blk_drewN ?_ _ | refine blk_drew ?_ | refine blk_alloc ?_ _)); refine blk_put (cs := #[.int .i64 t206, .int .i64 0, .int .i64 0]) ?_ 1 _ rfl; (with_reducible repeat (first | refine blk_drewN ?_ _ | refine blk_drew ?_ | refine blk_alloc ?_ _)); refine blk_put (cs := #[.int .i64 0, .int .i64 0, .int .i64 0]) ?_ 0 _ rfl; (with_reducible repeat (first | refine blk_drewN ?_ _ | refine blk_drew ?_ | refine blk_alloc ?_ _)); exact BK212.out⟩, ⟨by repeat (first | (with_reducible first | exact HB.out | apply below_alloc | apply pw_below_drewN | apply below_drew1 | refine below_set ?_ GE199.out | refine below_set ?_ GE212.out) | exact HB.out)⟩⟩
              case rest =>
                clear HC11
                try clear c1
                try clear c2
                try clear c2b0
                try clear c2b1
                try clear p2
                try clear q2
                try clear hx2
                try clear c3
                try clear c4
                try clear c7
                try clear c7b0
                try clear c8
                try clear c8b0
                try clear c9
                try clear c9b0
                try clear c19
                try clear c19b0
                try clear c19b1
                try clear p20
                try clear q20
                try clear hx20
                try clear c21
                try clear c21b0
                try clear c23
                try clear c25
                try clear c25b0
                try clear c27
                try clear c29
                try clear c29b0
                try clear c29b1
                try clear c30
                try clear c30b0
                try clear c30b1
                try clear c30b2
                try clear c32
                try clear c35
                try clear c38
                try clear hcz24_0
                try clear hcz24_1
                try clear hcz24_2
                try clear hcz28_0
                try clear hcz28_1
                try clear hcz28_2
                try clear hcz33_0
                try clear hcz33_1
                try clear hcz33_2
                try clear hcz36_0
                try clear hcz36_1
                try clear hcz36_2
                try clear hcz39_0
                try clear hcz39_1
                try clear hcz39_2
                try clear hcz6_0
                try clear hcz6_1
                try clear hcz6_2
                try clear hfz24_0
                try clear hfz24_1
                try clear hfz24_2
                try clear hfz28_0
                try clear hfz28_1
                try clear hfz28_2
                try clear hfz33_0
                try clear hfz33_1
                try clear hfz33_2
                try clear hfz36_0
                try clear hfz36_1
                try clear hfz36_2
                try clear hfz39_0
                try clear hfz39_1
                try clear hfz39_2
                try clear hfz6_0
                try clear hfz6_1
                try clear hfz6_2
                try clear hx205_0
                try clear p2
                try clear p205
                try clear q205
                obtain ⟨kq, x54_10, rfl, HA, HJ10, HO_7, BK199, BK212, HB⟩ := hcut
                cases kq with
                | zero => exact absurd HA.out (by simp [polyptychlaw1_UtfdCounts.j1])
                | succ kj10 =>
                  have H := HA.out
                  clear HA
                  simp only [polyptychlaw1_UtfdCounts.j1] at H
                  by_cases c40 : x54_10 = true
                  · subst c40
                    have H1 : (some false) = some r := by rw [if_pos rfl] at H; exact H
                    clear H
                    have H := H1
                    clear H1
                    exact absurd ((Option.some.inj H).trans hT_.out) (by decide)
                  · replace c40 := Bool.eq_false_iff.mpr c40
                    subst c40
                    have H1 : (if t206 > 0 then (polyptychlaw1_UtfdCounts.j2 kj10 l0 (wrap64 (x4_1 + 1)) t209 (l0.length : Int) x15_1 t206 t207 t208) else (polyptychlaw1_UtfdCounts.j2 kj10 l0 0 t209 (l0.length : Int) x15_1 t206 t207 t208)) = some r := by rw [if_neg (show ¬ (false = true) by decide)] at H; exact H
                    clear H
                    have H := H1
                    clear H1
                    have HC41 := Aside0.mk H
                    clear H
                    have hnb42 := NB212_199.out
                    have hnc42 := NB199_212.out
                    have hcz43_0 : wc.cell? ⟨gb212, 0, none⟩ = some (.int .i64 t206) := (blk_cell BK212.out 0).trans rfl
                    have hcz43_1 : wc.cell? ⟨gb212, 1, none⟩ = some (.int .i64 t207) := (blk_cell BK212.out 1).trans rfl
                    have hcz43_2 : wc.cell? ⟨gb212, 2, none⟩ = some (.int .i64 t208) := (blk_cell BK212.out 2).trans rfl
                    have hfz43_0 := blk_frozen BK212.out 0
                    have hfz43_1 := blk_frozen BK212.out 1
                    have hfz43_2 := blk_frozen BK212.out 2
                    go_upto_if 57 with (fail)
                    go_cut [4] (fun v4 wc => ∃ (kq : Nat) (x4_40 : Int), v4 = .int .i64 x4_40 ∧ Aside0 (polyptychlaw1_UtfdCounts.j2 kq l0 x4_40 t209 (l0.length : Int) x15_1 t206 t207 t208 = some r) ∧ Aside0 (kq ≤ kj10) ∧ Aside0 (Kd.R (Kd.int .i32) 21 wc w.heap.size (fun _ => True) v210 t209) ∧ Aside0 (wc.heap[gb199]? = some (.cells #[.int .i64 x200000_1, .int .i64 x200001_1, .int .i64 x200002_1] 25 (0, 0))) ∧ Aside0 (wc.heap[gb212]? = some (.cells #[.int .i64 t206, .int .i64 t207, .int .i64 t208] 25 (0, 0))) ∧ Aside0 (Below w.heap.size w wc))
                    case first =>
                      have H := HC41.out
                      clear HC41
                      by_cases c44 : t206 > 0
                      · rw [if_pos c44] at H
                        have c44b0 : decide (0 < t206) = true := decide_eq_true c44
                        clear c44
                        (first | rw [c44b0] | (simp only [i64_w, i32_w]; rw [c44b0]) | skip)
                        have H' := Aside0.mk H
                        clear H
                        go_wp2
                        go_meet
                        case rel => exact ⟨_, (wrap64 (x4_1 + 1)), (by first | rfl | (simp; done) | (simp [*]; done)), H', ⟨by have := HK1.out; have := HJ10.out; first | omega | exact Nat.le_refl _⟩, ⟨by (with_reducible repeat (first | apply Kd.R_alloc | apply Kd.R_drewN | apply Kd.R_drew)); exact HO_7.out⟩, ⟨by (with_reducible repeat (first | refine blk_drewN ?_ _ | refine blk_drew ?_ | refine blk_alloc ?_ _)); exact BK199.out⟩, ⟨by (with_reducible repeat (first | refine blk_drewN ?_ _ | refine blk_drew ?_ | refine blk_alloc ?_ _)); exact BK212.out⟩, ⟨by repeat (first | (with_reducible first | exact HB.out | apply below_alloc | apply pw_below_drewN | apply below_drew1 | refine below_set ?_ GE199.out | refine below_set ?_ GE212.out) | exact HB.out)⟩⟩
                      · rw [if_neg c44] at H
                        have c44b0 : decide (0 < t206) = false := decide_eq_false c44
                        clear c44
                        (first | rw [c44b0] | (simp only [i64_w, i32_w]; rw [c44b0]) | skip)
                        have H' := Aside0.mk H
                        clear H
                        go_wp2
                        go_meet
                        case rel => exact ⟨_, (0), (by first | rfl | (simp; done) | (simp [*]; done)), H', ⟨by have := HK1.out; have := HJ10.out; first | omega | exact Nat.le_refl _⟩, ⟨by (with_reducible repeat (first | apply Kd.R_alloc | apply Kd.R_drewN | apply Kd.R_drew)); exact HO_7.out⟩, ⟨by (with_reducible repeat (first | refine blk_drewN ?_ _ | refine blk_drew ?_ | refine blk_alloc ?_ _)); exact BK199.out⟩, ⟨by (with_reducible repeat (first | refine blk_drewN ?_ _ | refine blk_drew ?_ | refine blk_alloc ?_ _)); exact BK212.out⟩, ⟨by repeat (first | (with_reducible first | exact HB.out | apply below_alloc | apply pw_below_drewN | apply below_drew1 | refine below_set ?_ GE199.out | refine below_set ?_ GE212.out) | exact HB.out)⟩⟩
                    case rest =>
                      clear HC41
                      try clear c1
                      try clear c2
                      try clear c2b0
                      try clear c2b1
                      try clear p2
                      try clear q2
                      try clear hx2
                      try clear c3
                      try clear c4
                      try clear p6
                      try clear c7
                      try clear c7b0
                      try clear c8
                      try clear c8b0
                      try clear c9
                      try clear c9b0
                      try clear c19
                      try clear c19b0
                      try clear c19b1
                      try clear p20
                      try clear q20
                      try clear hx20
                      try clear c21
                      try clear c21b0
                      try clear c23
                      try clear c25
                      try clear c25b0
                      try clear c27
                      try clear c29
                      try clear c29b0
                      try clear c29b1
                      try clear c30
                      try clear c30b0
                      try clear c30b1
                      try clear c30b2
                      try clear c32
                      try clear c35
                      try clear c38
                      try clear c40
                      try clear c42
                      try clear c44
                      try clear c44b0
                      try clear hcz24_0
                      try clear hcz24_1
                      try clear hcz24_2
                      try clear hcz28_0
                      try clear hcz28_1
                      try clear hcz28_2
                      try clear hcz33_0
                      try clear hcz33_1
                      try clear hcz33_2
                      try clear hcz36_0
                      try clear hcz36_1
                      try clear hcz36_2
                      try clear hcz39_0
                      try clear hcz39_1
                      try clear hcz39_2
                      try clear hcz43_0
                      try clear hcz43_1
                      try clear hcz43_2
                      try clear hcz6_0
                      try clear hcz6_1
                      try clear hcz6_2
                      try clear hfz24_0
                      try clear hfz24_1
                      try clear hfz24_2
                      try clear hfz28_0
                      try clear hfz28_1
                      try clear hfz28_2
                      try clear hfz33_0
                      try clear hfz33_1
                      try clear hfz33_2
                      try clear hfz36_0
                      try clear hfz36_1
                      try clear hfz36_2
                      try clear hfz39_0
                      try clear hfz39_1
                      try clear hfz39_2
                      try clear hfz43_0
                      try clear hfz43_1
                      try clear hfz43_2
                      try clear hfz6_0
                      try clear hfz6_1
                      try clear hfz6_2
                      try clear hx205_0
                      try clear p2
                      try clear p20
                      try clear p205
                      try clear q2
                      try clear q20
                      try clear q205
                      obtain ⟨kq, x4_40, rfl, HA, HJ40, HO_7, BK199, BK212, HB⟩ := hcut
                      cases kq with
                      | zero => exact absurd HA.out (by simp [polyptychlaw1_UtfdCounts.j2])
                      | succ kj40 =>
                        have H := HA.out
                        clear HA
                        simp only [polyptychlaw1_UtfdCounts.j2] at H
                        have HC45 := Aside0.mk H
                        clear H
                        go_upto_region 14 with (fail)
                        go_cut [67] (fun v67 wc => ∃ (kq : Nat) (x67_44 : Bool), v67 = .bool x67_44 ∧ Aside0 (polyptychlaw1_UtfdCounts.j3 kq l0 x4_40 (l0.length : Int) x15_1 x67_44 t206 t207 t208 = some r) ∧ Aside0 (kq ≤ kj40) ∧ Aside0 (wc.heap[gb199]? = some (.cells #[.int .i64 x200000_1, .int .i64 x200001_1, .int .i64 x200002_1] 25 (0, 0))) ∧ Aside0 (wc.heap[gb212]? = some (.cells #[.int .i64 t206, .int .i64 t207, .int .i64 t208] 25 (0, 0))) ∧ Aside0 (Below w.heap.size w wc))
                        case first =>
                          have H := HC45.out
                          clear HC45
                          by_cases c46 : (t209.length : Int) > 0
                          · rw [if_pos c46] at H
                            have c46b0 : decide (0 < (t209.length : Int)) = true := decide_eq_true c46
                            have c46b1 : decide (0 < t209.length) = true := decide_eq_true (by omega)
                            clear c46
                            (first | rw [c46b0] | (simp only [i64_w, i32_w]; rw [c46b0]) | skip)
                            have H' := Aside0.mk H
                            clear H
                            obtain ⟨Ao47, co47, eo47⟩ := Kd.R_slice HO_7.out
                            subst eo47
                            have hnb48 := NB212_199.out
                            have hnc48 := NB199_212.out
                            have hcz49_0 : wc.cell? ⟨gb212, 0, none⟩ = some (.int .i64 t206) := (blk_cell BK212.out 0).trans rfl
                            have hcz49_1 : wc.cell? ⟨gb212, 1, none⟩ = some (.int .i64 t207) := (blk_cell BK212.out 1).trans rfl
                            have hcz49_2 : wc.cell? ⟨gb212, 2, none⟩ = some (.int .i64 t208) := (blk_cell BK212.out 2).trans rfl
                            have hfz49_0 := blk_frozen BK212.out 0
                            have hfz49_1 := blk_frozen BK212.out 1
                            have hfz49_2 := blk_frozen BK212.out 2
                            go_wp2
                            go_meet
                            case rel => exact ⟨_, (decide (t206 > 0)), (by first | rfl | (simp; done) | (simp [*]; done)), H', ⟨by have := HK1.out; have := HJ10.out; have := HJ40.out; first | omega | exact Nat.le_refl _⟩, ⟨by (with_reducible repeat (first | refine blk_drewN ?_ _ | refine blk_drew ?_ | refine blk_alloc ?_ _)); exact BK199.out⟩, ⟨by (with_reducible repeat (first | refine blk_drewN ?_ _ | refine blk_drew ?_ | refine blk_alloc ?_ _)); exact BK212.out⟩, ⟨by repeat (first | (with_reducible first | exact HB.out | apply below_alloc | apply pw_below_drewN | apply below_drew1 | refine below_set ?_ GE199.out | refine below_set ?_ GE212.out) | exact HB.out)⟩⟩
                          · rw [if_neg c46] at H
                            have c46b0 : decide (0 < (t209.length : Int)) = false := decide_eq_false c46
                            have c46b1 : decide (0 < t209.length) = false := decide_eq_false (by omega)
                            clear c46
                            (first | rw [c46b0] | (simp only [i64_w, i32_w]; rw [c46b0]) | skip)
                            have H' := Aside0.mk H
                            clear H
                            obtain ⟨Ao50, co50, eo50⟩ := Kd.R_slice HO_7.out
                            subst eo50
                            go_wp2
                            go_meet
                            case rel => exact ⟨_, (false), (by first | rfl | (simp; done) | (simp [*]; done)), H', ⟨by have := HK1.out; have := HJ10.out; have := HJ40.out; first | omega | exact Nat.le_refl _⟩, ⟨by (with_reducible repeat (first | refine blk_drewN ?_ _ | refine blk_drew ?_ | refine blk_alloc ?_ _)); exact BK199.out⟩, ⟨by (with_reducible repeat (first | refine blk_drewN ?_ _ | refine blk_drew ?_ | refine blk_alloc ?_ _)); exact BK212.out⟩, ⟨by repeat (first | (with_reducible first | exact HB.out | apply below_alloc | apply pw_below_drewN | apply below_drew1 | refine below_set ?_ GE199.out | refine below_set ?_ GE212.out) | exact HB.out)⟩⟩
                        case rest =>
                          clear HC45
                          try clear c1
                          try clear c2
                          try clear c2b0
                          try clear c2b1
                          try clear p2
                          try clear q2
                          try clear hx2
                          try clear c3
                          try clear c4
                          try clear p6
                          try clear c7
                          try clear c7b0
                          try clear c8
                          try clear c8b0
                          try clear c9
                          try clear c9b0
                          try clear c19
                          try clear c19b0
                          try clear c19b1
                          try clear p20
                          try clear q20
                          try clear hx20
                          try clear c21
                          try clear c21b0
                          try clear c23
                          try clear c25
                          try clear c25b0
                          try clear c27
                          try clear c29
                          try clear c29b0
                          try clear c29b1
                          try clear c30
                          try clear c30b0
                          try clear c30b1
                          try clear c30b2
                          try clear c32
                          try clear c35
                          try clear c38
                          try clear c40
                          try clear c42
                          try clear c44
                          try clear c44b0
                          try clear c46
                          try clear c46b0
                          try clear c46b1
                          try clear c48
                          try clear hcz24_0
                          try clear hcz24_1
                          try clear hcz24_2
                          try clear hcz28_0
                          try clear hcz28_1
                          try clear hcz28_2
                          try clear hcz33_0
                          try clear hcz33_1
                          try clear hcz33_2
                          try clear hcz36_0
                          try clear hcz36_1
                          try clear hcz36_2
                          try clear hcz39_0
                          try clear hcz39_1
                          try clear hcz39_2
                          try clear hcz43_0
                          try clear hcz43_1
                          try clear hcz43_2
                          try clear hcz49_0
                          try clear hcz49_1
                          try clear hcz49_2
                          try clear hcz6_0
                          try clear hcz6_1
                          try clear hcz6_2
                          try clear hfz24_0
                          try clear hfz24_1
                          try clear hfz24_2
                          try clear hfz28_0
                          try clear hfz28_1
                          try clear hfz28_2
                          try clear hfz33_0
                          try clear hfz33_1
                          try clear hfz33_2
                          try clear hfz36_0
                          try clear hfz36_1
                          try clear hfz36_2
                          try clear hfz39_0
                          try clear hfz39_1
                          try clear hfz39_2
                          try clear hfz43_0
                          try clear hfz43_1
                          try clear hfz43_2
                          try clear hfz49_0
                          try clear hfz49_1
                          try clear hfz49_2
                          try clear hfz6_0
                          try clear hfz6_1
                          try clear hfz6_2
                          try clear hx205_0
                          try clear p2
                          try clear p20
                          try clear p205
                          try clear p6
                          try clear q2
                          try clear q20
                          try clear q205
                          obtain ⟨kq, x67_44, rfl, HA, HJ44, BK199, BK212, HB⟩ := hcut
                          cases kq with
                          | zero => exact absurd HA.out (by simp [polyptychlaw1_UtfdCounts.j3])
                          | succ kj44 =>
                            have H := HA.out
                            clear HA
                            simp only [polyptychlaw1_UtfdCounts.j3] at H
                            by_cases c51 : x67_44 = true
                            · subst c51
                              have H1 : (if 1 > 3 then (some false) else ((utfd_End.f t206 t207 t208).bind fun t213 => (if (t213.length : Int) = (mn t206 1) then (polyptychlaw1_UtfdCounts.l0 kj44 l0 1 (l0.length : Int) (wrap64 (x15_1 + 1)) t206 t207 t208) else (some false)))) = some r := by rw [if_pos rfl] at H; exact H
                              clear H
                              have H := H1
                              clear H1
                              by_cases c52 : 1 > 3
                              · rw [if_pos c52] at H
                                have c52b0 : decide (3 < 1) = true := decide_eq_true c52
                                clear c52
                                exact absurd ((Option.some.inj H).trans hT_.out) (by decide)
                              · rw [if_neg c52] at H
                                have c52b0 : decide (3 < 1) = false := decide_eq_false c52
                                clear c52
                                replace H := Option.bind_eq_some_iff.mp H
                                obtain ⟨t213, A530, H⟩ := H
                                replace H : (if (t213.length : Int) = (mn t206 1) then (polyptychlaw1_UtfdCounts.l0 kj44 l0 1 (l0.length : Int) (wrap64 (x15_1 + 1)) t206 t207 t208) else (some false)) = some r := H
                                have A53 := Aside0.mk A530
                                clear A530
                                obtain ⟨ji54, hji54⟩ : ∃ j_ : Int, (mn t206 1) = j_ := ⟨_, rfl⟩
                                replace H : (if (t213.length : Int) = (ji54) then (polyptychlaw1_UtfdCounts.l0 kj44 l0 1 (l0.length : Int) (wrap64 (x15_1 + 1)) t206 t207 t208) else (some false)) = some r := by first | (rw [hji54] at H; exact H) | (simp only [hji54] at H ⊢; exact H)
                                (try rw [hji54] at A53)
                                have hji54_ : (if 1 < t206 then 1 else t206) = ji54 := hji54
                                by_cases c55 : (t213.length : Int) = (ji54)
                                · rw [if_pos c55] at H
                                  have c55b0 : ((t213.length : Int) == (ji54)) = true := beq_iff_eq.mpr c55
                                  have c55b1 : ((t213.length : Int) != (ji54)) = false := bne_eq_false_iff_eq.mpr c55
                                  clear c55
                                  have H' := Aside0.mk H
                                  clear H
                                  try go_wp2
                                  have n0_ := Aside0.mk (blk_drew BK199.out)
                                  have n1_ := Aside0.mk (blk_drew BK212.out)
                                  have n2_ := Aside0.mk (below_drew1 HB.out)
                                  clear BK199
                                  clear BK212
                                  clear HB
                                  have BK199 := n0_
                                  have BK212 := n1_
                                  have HB := n2_
                                  clear n0_ n1_ n2_
                                  refine start_ (n := 11) (S := fun w' => w'.cell? ⟨gb212, 0, none⟩ = some (.int .i64 t206) ∧ w'.cell? ⟨gb212, 1, none⟩ = some (.int .i64 t207) ∧ w'.cell? ⟨gb212, 2, none⟩ = some (.int .i64 t208)) (ds := []) #[false, false, false, false, false, false, false, false, false, false, false] (by kernel_rfl) rfl rfl ⟨(blk_cell BK212.out 0).trans rfl, (blk_cell BK212.out 1).trans rfl, (blk_cell BK212.out 2).trans rfl⟩ (fun hHeld => ?_); refine with_tabW polyptychlaw1_UtfdCounts.tab16 polyptychlaw1_UtfdCounts.bits16 (fun HT_ HW_ => ?_)
                                  generalize wc.drew = w56 at BK199 BK212 HB hHeld ⊢
                                  refine pure_ (i := 0) (N := some 68) (v := ?_) (a' := ?_) #[true, false, false, false, false, false, false, false, false, false, false] rfl rfl (any_of HT_.out (by kernel_rfl)) (fun _ _ _ h => h) (Or.inl ⟨by rfl, ?_⟩) ?_ ?_
                                  rotate_left
                                  · intro w'
                                    go_simp
                                    with_reducible rfl
                                  rotate_left
                                  · simp only [Act.put, List.setIfInBounds_toArray, List.set_cons_zero, List.set_cons_succ, i64_w, i32_w]
                                    rfl
                                  refine pure_ (i := 1) (N := some 69) (v := ?_) (a' := ?_) #[true, true, false, false, false, false, false, false, false, false, false] rfl rfl (any_of HT_.out (by kernel_rfl)) (fun _ _ _ h => h) (Or.inl ⟨by rfl, ?_⟩) ?_ ?_
                                  rotate_left
                                  · intro w'
                                    go_simp
                                    with_reducible rfl
                                  rotate_left
                                  · simp only [Act.put, List.setIfInBounds_toArray, List.set_cons_zero, List.set_cons_succ, i64_w, i32_w]
                                    rfl
                                  refine pure_ (i := 2) (N := some 70) (v := ?_) (a' := ?_) #[true, true, true, false, false, false, false, false, false, false, false] rfl rfl (any_of HT_.out (by kernel_rfl)) (fun _ _ _ h => h) (Or.inl ⟨by rfl, ?_⟩) ?_ ?_
                                  rotate_left
                                  · intro w'
                                    go_simp
                                    with_reducible rfl
                                  rotate_left
                                  · simp only [Act.put, List.setIfInBounds_toArray, List.set_cons_zero, List.set_cons_succ, i64_w, i32_w]
                                    rfl
                                  refine pure_ (i := 6) (N := some 74) (v := ?_) (a' := ?_) #[true, true, true, false, false, false, true, false, false, false, false] rfl rfl (any_of HT_.out (by kernel_rfl)) (fun _ _ _ h => h) (Or.inl ⟨by rfl, ?_⟩) ?_ ?_
                                  rotate_left
                                  · intro w'
                                    go_simp
                                    with_reducible rfl
                                  rotate_left
                                  · simp only [Act.put, List.setIfInBounds_toArray, List.set_cons_zero, List.set_cons_succ, i64_w, i32_w]
                                    rfl
                                  refine take_ (i := 3) (N := some 71) (v := ?_) (a' := ?_) #[true, true, true, true, false, false, true, false, false, false, false] rfl rfl (take_ofW HT_.out HW_.out (by kernel_rfl)) (fun _ _ _ h => h) (Or.inl ⟨by rfl, ?_⟩) hHeld ?_ ?_
                                  rotate_left
                                  · rintro w' ⟨s0, s1, s2⟩
                                    go_simp
                                    with_reducible rfl
                                  rotate_left
                                  · simp only [Act.put, List.setIfInBounds_toArray, List.set_cons_zero, List.set_cons_succ, i64_w, i32_w]
                                    rfl
                                  refine take_ (i := 7) (N := some 75) (v := ?_) (a' := ?_) #[true, true, true, true, false, false, true, true, false, false, false] rfl rfl (take_ofW HT_.out HW_.out (by kernel_rfl)) (fun _ _ _ h => h) (Or.inl ⟨by rfl, ?_⟩) hHeld ?_ ?_
                                  rotate_left
                                  · rintro w' ⟨s0, s1, s2⟩
                                    go_simp
                                    with_reducible rfl
                                  rotate_left
                                  · simp only [Act.put, List.setIfInBounds_toArray, List.set_cons_zero, List.set_cons_succ, i64_w, i32_w]
                                    rfl
                                  refine pure_ (i := 8) (N := some 76) (v := ?_) (a' := ?_) #[true, true, true, true, false, false, true, true, true, false, false] rfl rfl (any_of HT_.out (by kernel_rfl)) (fun _ _ _ h => h) (Or.inl ⟨by rfl, ?_⟩) ?_ ?_
                                  rotate_left
                                  · intro w'
                                    go_simp
                                    with_reducible rfl
                                  rotate_left
                                  · simp only [Act.put, List.setIfInBounds_toArray, List.set_cons_zero, List.set_cons_succ, i64_w, i32_w]
                                    rfl
                                  refine one_ (i := 4) (N := some 72) #[true, true, true, true, true, false, true, true, true, false, false] rfl rfl (one_of HT_.out (by kernel_rfl)) (by decide) (fun K hK => ?_)
                                  refine goes_ Try.func8 (by kernel_rfl) rfl #[.agg #[.int .i64 t206, .int .i64 t207, .int .i64 t208]] (by rfl) rfl rfl (by (try simp only [List.map_toArray, List.map_cons, List.map_nil]); first | done | rfl | (simp only [List.length_drop, List.length_take]; rfl)) ?_
                                  with_reducible refine (utfd_End.calls t206 t207 t208 t213 _ A53.out).mono ?_
                                  rintro e w57 ⟨v214, rfl, ho0, hb⟩
                                  refine ⟨_, rfl, ?_⟩
                                  have n0_ := Aside0.mk (Kd.R_lower ho0 (below_size (by repeat (first | (with_reducible first | exact HB.out | apply below_alloc | apply pw_below_drewN | apply below_drew1 | refine below_set ?_ GE199.out | refine below_set ?_ GE212.out) | exact HB.out))))
                                  have n1_ := Aside0.mk (blk_below (g := gb199) (o := .cells #[.int .i64 x200000_1, .int .i64 x200001_1, .int .i64 x200002_1] 25 (0, 0)) (by (with_reducible repeat (first | refine blk_drewN ?_ _ | refine blk_drew ?_ | refine blk_alloc ?_ _)); exact BK199.out) hb)
                                  have n2_ := Aside0.mk (blk_below (g := gb212) (o := .cells #[.int .i64 t206, .int .i64 t207, .int .i64 t208] 25 (0, 0)) (by (with_reducible repeat (first | refine blk_drewN ?_ _ | refine blk_drew ?_ | refine blk_alloc ?_ _)); exact BK212.out) hb)
                                  have n3_ := Aside0.mk (below_step (by repeat (first | (with_reducible first | exact HB.out | apply below_alloc | apply pw_below_drewN | apply below_drew1 | refine below_set ?_ GE199.out | refine below_set ?_ GE212.out) | exact HB.out)) hb)
                                  clear BK199
                                  clear BK212
                                  clear HB
                                  have HO215 := n0_
                                  have BK199 := n1_
                                  have BK212 := n2_
                                  have HB := n3_
                                  clear n0_ n1_ n2_ n3_
                                  (try clear hb)
                                  (try clear hb2)
                                  (try clear hk)
                                  (try clear hi)
                                  (try clear ho0)
                                  obtain ⟨Ao58, co58, eo58⟩ := Kd.R_slice HO215.out
                                  (first | subst eo58 | (injection eo58 with f1_ f2_ f3_; have f4_ := f1_.symm; have f5_ := f3_.symm; clear f1_ f2_ f3_; subst f4_; subst f5_))
                                  refine hK.out _ _ ⟨(blk_cell BK212.out 0).trans rfl, (blk_cell BK212.out 1).trans rfl, (blk_cell BK212.out 2).trans rfl⟩ (fun hHeld => ?_)
                                  clear hK K
                                  refine norm_ (a' := ?_) ?_ ?_
                                  rotate_left
                                  · show Act.put _ (some 72) _ = _
                                    simp only [Act.put, List.setIfInBounds_toArray, List.set_cons_zero, List.set_cons_succ, i64_w, i32_w]
                                    rfl
                                  refine pure_ (i := 5) (N := some 73) (v := ?_) (a' := ?_) #[true, true, true, true, true, true, true, true, true, false, false] rfl rfl (any_of HT_.out (by kernel_rfl)) (fun _ _ _ h => h) (Or.inl ⟨by rfl, ?_⟩) ?_ ?_
                                  rotate_left
                                  · intro w'
                                    go_simp
                                    with_reducible rfl
                                  rotate_left
                                  · simp only [Act.put, List.setIfInBounds_toArray, List.set_cons_zero, List.set_cons_succ, i64_w, i32_w]
                                    rfl
                                  refine pure_ (i := 9) (N := some 77) (v := ?_) (a' := ?_) #[true, true, true, true, true, true, true, true, true, true, false] rfl rfl (any_of HT_.out (by kernel_rfl)) (fun _ _ _ h => h) (Or.inl ⟨by rfl, ?_⟩) ?_ ?_
                                  rotate_left
                                  · intro w'
                                    go_simp
                                    with_reducible rfl
                                  rotate_left
                                  · simp only [Act.put, List.setIfInBounds_toArray, List.set_cons_zero, List.set_cons_succ, i64_w, i32_w]
                                    rfl
                                  refine pure_ (i := 10) (N := some 78) (v := ?_) (a' := ?_) #[true, true, true, true, true, true, true, true, true, true, true] rfl rfl (any_of HT_.out (by kernel_rfl)) (fun _ _ _ h => h) (Or.inl ⟨by rfl, ?_⟩) ?_ ?_
                                  rotate_left
                                  · intro w'
                                    go_simp
                                    with_reducible rfl
                                  rotate_left
                                  · simp only [Act.put, List.setIfInBounds_toArray, List.set_cons_zero, List.set_cons_succ, i64_w, i32_w]
                                    rfl
                                  refine done_ (done_of HT_.out (by kernel_rfl)) ?_
                                  have hnb59 := NB212_199.out
                                  have hnc59 := NB199_212.out
                                  have hcz60_0 : w57.cell? ⟨gb212, 0, none⟩ = some (.int .i64 t206) := (blk_cell BK212.out 0).trans rfl
                                  have hcz60_1 : w57.cell? ⟨gb212, 1, none⟩ = some (.int .i64 t207) := (blk_cell BK212.out 1).trans rfl
                                  have hcz60_2 : w57.cell? ⟨gb212, 2, none⟩ = some (.int .i64 t208) := (blk_cell BK212.out 2).trans rfl
                                  have hfz60_0 := blk_frozen BK212.out 0
                                  have hfz60_1 := blk_frozen BK212.out 1
                                  have hfz60_2 := blk_frozen BK212.out 2
                                  have hcz61_0 : w57.cell? ⟨gb199, 0, none⟩ = some (.int .i64 x200000_1) := (blk_cell BK199.out 0).trans rfl
                                  have hcz61_1 : w57.cell? ⟨gb199, 1, none⟩ = some (.int .i64 x200001_1) := (blk_cell BK199.out 1).trans rfl
                                  have hcz61_2 : w57.cell? ⟨gb199, 2, none⟩ = some (.int .i64 x200002_1) := (blk_cell BK199.out 2).trans rfl
                                  have hfz61_0 := blk_frozen BK199.out 0
                                  have hfz61_1 := blk_frozen BK199.out 1
                                  have hfz61_2 := blk_frozen BK199.out 2
                                  try go_wp2
                                  go_roundg kj44
                                  case measure => have := HK1.out; have := HJ10.out; have := HJ40.out; have := HJ44.out; omega
                                  case rel => exact ⟨(1), (wrap64 (x15_1 + 1)), (t206), (t207), (t208), (by first | rfl | (simp; done) | (simp [*]; done)), (by first | rfl | (simp; done) | (simp [*]; done)), H', ⟨by have := HK1.out; have := HJ10.out; have := HJ40.out; have := HJ44.out; omega⟩, ⟨by (with_reducible repeat (first | refine blk_drewN ?_ _ | refine blk_drew ?_ | refine blk_alloc ?_ _)); refine blk_put (cs := #[.int .i64 t206, .int .i64 t207, .int .i64 x200002_1]) ?_ 2 _ rfl; (with_reducible repeat (first | refine blk_drewN ?_ _ | refine blk_drew ?_ | refine blk_alloc ?_ _)); refine blk_put (cs := #[.int .i64 t206, .int .i64 x200001_1, .int .i64 x200002_1]) ?_ 1 _ rfl; (with_reducible repeat (first | refine blk_drewN ?_ _ | refine blk_drew ?_ | refine blk_alloc ?_ _)); refine blk_put (cs := #[.int .i64 x200000_1, .int .i64 x200001_1, .int .i64 x200002_1]) ?_ 0 _ rfl; (with_reducible repeat (first | refine blk_drewN ?_ _ | refine blk_drew ?_ | refine blk_alloc ?_ _)); exact BK199.out⟩, ⟨by repeat (first | (with_reducible first | exact HB.out | apply below_alloc | apply pw_below_drewN | apply below_drew1 | refine below_set ?_ GE199.out | refine below_set ?_ GE212.out) | exact HB.out)⟩⟩
                                · rw [if_neg c55] at H
                                  have c55b0 : ((t213.length : Int) == (ji54)) = false := beq_eq_false_iff_ne.mpr c55
                                  have c55b1 : ((t213.length : Int) != (ji54)) = true := bne_iff_ne.mpr c55
                                  exact absurd ((Option.some.inj H).trans hT_.out) (by decide)
                            · replace c51 := Bool.eq_false_iff.mpr c51
                              subst c51
                              have H1 : (if x4_40 > 3 then (some false) else ((utfd_End.f t206 t207 t208).bind fun t216 => (if (t216.length : Int) = (mn t206 1) then (polyptychlaw1_UtfdCounts.l0 kj44 l0 x4_40 (l0.length : Int) (wrap64 (x15_1 + 1)) t206 t207 t208) else (some false)))) = some r := by rw [if_neg (show ¬ (false = true) by decide)] at H; exact H
                              clear H
                              have H := H1
                              clear H1
                              by_cases c62 : x4_40 > 3
                              · rw [if_pos c62] at H
                                have c62b0 : decide (3 < x4_40) = true := decide_eq_true c62
                                clear c62
                                exact absurd ((Option.some.inj H).trans hT_.out) (by decide)
                              · rw [if_neg c62] at H
                                have c62b0 : decide (3 < x4_40) = false := decide_eq_false c62
                                clear c62
                                replace H := Option.bind_eq_some_iff.mp H
                                obtain ⟨t216, A630, H⟩ := H
                                replace H : (if (t216.length : Int) = (mn t206 1) then (polyptychlaw1_UtfdCounts.l0 kj44 l0 x4_40 (l0.length : Int) (wrap64 (x15_1 + 1)) t206 t207 t208) else (some false)) = some r := H
                                have A63 := Aside0.mk A630
                                clear A630
                                obtain ⟨ji64, hji64⟩ : ∃ j_ : Int, (mn t206 1) = j_ := ⟨_, rfl⟩
                                replace H : (if (t216.length : Int) = (ji64) then (polyptychlaw1_UtfdCounts.l0 kj44 l0 x4_40 (l0.length : Int) (wrap64 (x15_1 + 1)) t206 t207 t208) else (some false)) = some r := by first | (rw [hji64] at H; exact H) | (simp only [hji64] at H ⊢; exact H)
                                (try rw [hji64] at A63)
                                have hji64_ : (if 1 < t206 then 1 else t206) = ji64 := hji64
                                by_cases c65 : (t216.length : Int) = (ji64)
                                · rw [if_pos c65] at H
                                  have c65b0 : ((t216.length : Int) == (ji64)) = true := beq_iff_eq.mpr c65
                                  have c65b1 : ((t216.length : Int) != (ji64)) = false := bne_eq_false_iff_eq.mpr c65
                                  clear c65
                                  have H' := Aside0.mk H
                                  clear H
                                  try go_wp2
                                  have n0_ := Aside0.mk (blk_drew BK199.out)
                                  have n1_ := Aside0.mk (blk_drew BK212.out)
                                  have n2_ := Aside0.mk (below_drew1 HB.out)
                                  clear BK199
                                  clear BK212
                                  clear HB
                                  have BK199 := n0_
                                  have BK212 := n1_
                                  have HB := n2_
                                  clear n0_ n1_ n2_
                                  refine start_ (n := 11) (S := fun w' => w'.cell? ⟨gb212, 0, none⟩ = some (.int .i64 t206) ∧ w'.cell? ⟨gb212, 1, none⟩ = some (.int .i64 t207) ∧ w'.cell? ⟨gb212, 2, none⟩ = some (.int .i64 t208)) (ds := []) #[false, false, false, false, false, false, false, false, false, false, false] (by kernel_rfl) rfl rfl ⟨(blk_cell BK212.out 0).trans rfl, (blk_cell BK212.out 1).trans rfl, (blk_cell BK212.out 2).trans rfl⟩ (fun hHeld => ?_); refine with_tabW polyptychlaw1_UtfdCounts.tab16 polyptychlaw1_UtfdCounts.bits16 (fun HT_ HW_ => ?_)
                                  generalize wc.drew = w66 at BK199 BK212 HB hHeld ⊢
                                  refine pure_ (i := 0) (N := some 68) (v := ?_) (a' := ?_) #[true, false, false, false, false, false, false, false, false, false, false] rfl rfl (any_of HT_.out (by kernel_rfl)) (fun _ _ _ h => h) (Or.inl ⟨by rfl, ?_⟩) ?_ ?_
                                  rotate_left
                                  · intro w'
                                    go_simp
                                    with_reducible rfl
                                  rotate_left
                                  · simp only [Act.put, List.setIfInBounds_toArray, List.set_cons_zero, List.set_cons_succ, i64_w, i32_w]
                                    rfl
                                  refine pure_ (i := 1) (N := some 69) (v := ?_) (a' := ?_) #[true, true, false, false, false, false, false, false, false, false, false] rfl rfl (any_of HT_.out (by kernel_rfl)) (fun _ _ _ h => h) (Or.inl ⟨by rfl, ?_⟩) ?_ ?_
                                  rotate_left
                                  · intro w'
                                    go_simp
                                    with_reducible rfl
                                  rotate_left
                                  · simp only [Act.put, List.setIfInBounds_toArray, List.set_cons_zero, List.set_cons_succ, i64_w, i32_w]
                                    rfl
                                  refine pure_ (i := 2) (N := some 70) (v := ?_) (a' := ?_) #[true, true, true, false, false, false, false, false, false, false, false] rfl rfl (any_of HT_.out (by kernel_rfl)) (fun _ _ _ h => h) (Or.inl ⟨by rfl, ?_⟩) ?_ ?_
                                  rotate_left
                                  · intro w'
                                    go_simp
                                    with_reducible rfl
                                  rotate_left
                                  · simp only [Act.put, List.setIfInBounds_toArray, List.set_cons_zero, List.set_cons_succ, i64_w, i32_w]
                                    rfl
                                  refine pure_ (i := 6) (N := some 74) (v := ?_) (a' := ?_) #[true, true, true, false, false, false, true, false, false, false, false] rfl rfl (any_of HT_.out (by kernel_rfl)) (fun _ _ _ h => h) (Or.inl ⟨by rfl, ?_⟩) ?_ ?_
                                  rotate_left
                                  · intro w'
                                    go_simp
                                    with_reducible rfl
                                  rotate_left
                                  · simp only [Act.put, List.setIfInBounds_toArray, List.set_cons_zero, List.set_cons_succ, i64_w, i32_w]
                                    rfl
                                  refine take_ (i := 3) (N := some 71) (v := ?_) (a' := ?_) #[true, true, true, true, false, false, true, false, false, false, false] rfl rfl (take_ofW HT_.out HW_.out (by kernel_rfl)) (fun _ _ _ h => h) (Or.inl ⟨by rfl, ?_⟩) hHeld ?_ ?_
                                  rotate_left
                                  · rintro w' ⟨s0, s1, s2⟩
                                    go_simp
                                    with_reducible rfl
                                  rotate_left
                                  · simp only [Act.put, List.setIfInBounds_toArray, List.set_cons_zero, List.set_cons_succ, i64_w, i32_w]
                                    rfl
                                  refine take_ (i := 7) (N := some 75) (v := ?_) (a' := ?_) #[true, true, true, true, false, false, true, true, false, false, false] rfl rfl (take_ofW HT_.out HW_.out (by kernel_rfl)) (fun _ _ _ h => h) (Or.inl ⟨by rfl, ?_⟩) hHeld ?_ ?_
                                  rotate_left
                                  · rintro w' ⟨s0, s1, s2⟩
                                    go_simp
                                    with_reducible rfl
                                  rotate_left
                                  · simp only [Act.put, List.setIfInBounds_toArray, List.set_cons_zero, List.set_cons_succ, i64_w, i32_w]
                                    rfl
                                  refine pure_ (i := 8) (N := some 76) (v := ?_) (a' := ?_) #[true, true, true, true, false, false, true, true, true, false, false] rfl rfl (any_of HT_.out (by kernel_rfl)) (fun _ _ _ h => h) (Or.inl ⟨by rfl, ?_⟩) ?_ ?_
                                  rotate_left
                                  · intro w'
                                    go_simp
                                    with_reducible rfl
                                  rotate_left
                                  · simp only [Act.put, List.setIfInBounds_toArray, List.set_cons_zero, List.set_cons_succ, i64_w, i32_w]
                                    rfl
                                  refine one_ (i := 4) (N := some 72) #[true, true, true, true, true, false, true, true, true, false, false] rfl rfl (one_of HT_.out (by kernel_rfl)) (by decide) (fun K hK => ?_)
                                  refine goes_ Try.func8 (by kernel_rfl) rfl #[.agg #[.int .i64 t206, .int .i64 t207, .int .i64 t208]] (by rfl) rfl rfl (by (try simp only [List.map_toArray, List.map_cons, List.map_nil]); first | done | rfl | (simp only [List.length_drop, List.length_take]; rfl)) ?_
                                  with_reducible refine (utfd_End.calls t206 t207 t208 t216 _ A63.out).mono ?_
                                  rintro e w67 ⟨v217, rfl, ho0, hb⟩
                                  refine ⟨_, rfl, ?_⟩
                                  have n0_ := Aside0.mk (Kd.R_lower ho0 (below_size (by repeat (first | (with_reducible first | exact HB.out | apply below_alloc | apply pw_below_drewN | apply below_drew1 | refine below_set ?_ GE199.out | refine below_set ?_ GE212.out) | exact HB.out))))
                                  have n1_ := Aside0.mk (blk_below (g := gb199) (o := .cells #[.int .i64 x200000_1, .int .i64 x200001_1, .int .i64 x200002_1] 25 (0, 0)) (by (with_reducible repeat (first | refine blk_drewN ?_ _ | refine blk_drew ?_ | refine blk_alloc ?_ _)); exact BK199.out) hb)
                                  have n2_ := Aside0.mk (blk_below (g := gb212) (o := .cells #[.int .i64 t206, .int .i64 t207, .int .i64 t208] 25 (0, 0)) (by (with_reducible repeat (first | refine blk_drewN ?_ _ | refine blk_drew ?_ | refine blk_alloc ?_ _)); exact BK212.out) hb)
                                  have n3_ := Aside0.mk (below_step (by repeat (first | (with_reducible first | exact HB.out | apply below_alloc | apply pw_below_drewN | apply below_drew1 | refine below_set ?_ GE199.out | refine below_set ?_ GE212.out) | exact HB.out)) hb)
                                  clear BK199
                                  clear BK212
                                  clear HB
                                  have HO218 := n0_
                                  have BK199 := n1_
                                  have BK212 := n2_
                                  have HB := n3_
                                  clear n0_ n1_ n2_ n3_
                                  (try clear hb)
                                  (try clear hb2)
                                  (try clear hk)
                                  (try clear hi)
                                  (try clear ho0)
                                  obtain ⟨Ao68, co68, eo68⟩ := Kd.R_slice HO218.out
                                  (first | subst eo68 | (injection eo68 with f1_ f2_ f3_; have f4_ := f1_.symm; have f5_ := f3_.symm; clear f1_ f2_ f3_; subst f4_; subst f5_))
                                  refine hK.out _ _ ⟨(blk_cell BK212.out 0).trans rfl, (blk_cell BK212.out 1).trans rfl, (blk_cell BK212.out 2).trans rfl⟩ (fun hHeld => ?_)
                                  clear hK K
                                  refine norm_ (a' := ?_) ?_ ?_
                                  rotate_left
                                  · show Act.put _ (some 72) _ = _
                                    simp only [Act.put, List.setIfInBounds_toArray, List.set_cons_zero, List.set_cons_succ, i64_w, i32_w]
                                    rfl
                                  refine pure_ (i := 5) (N := some 73) (v := ?_) (a' := ?_) #[true, true, true, true, true, true, true, true, true, false, false] rfl rfl (any_of HT_.out (by kernel_rfl)) (fun _ _ _ h => h) (Or.inl ⟨by rfl, ?_⟩) ?_ ?_
                                  rotate_left
                                  · intro w'
                                    go_simp
                                    with_reducible rfl
                                  rotate_left
                                  · simp only [Act.put, List.setIfInBounds_toArray, List.set_cons_zero, List.set_cons_succ, i64_w, i32_w]
                                    rfl
                                  refine pure_ (i := 9) (N := some 77) (v := ?_) (a' := ?_) #[true, true, true, true, true, true, true, true, true, true, false] rfl rfl (any_of HT_.out (by kernel_rfl)) (fun _ _ _ h => h) (Or.inl ⟨by rfl, ?_⟩) ?_ ?_
                                  rotate_left
                                  · intro w'
                                    go_simp
                                    with_reducible rfl
                                  rotate_left
                                  · simp only [Act.put, List.setIfInBounds_toArray, List.set_cons_zero, List.set_cons_succ, i64_w, i32_w]
                                    rfl
                                  refine pure_ (i := 10) (N := some 78) (v := ?_) (a' := ?_) #[true, true, true, true, true, true, true, true, true, true, true] rfl rfl (any_of HT_.out (by kernel_rfl)) (fun _ _ _ h => h) (Or.inl ⟨by rfl, ?_⟩) ?_ ?_
                                  rotate_left
                                  · intro w'
                                    go_simp
                                    with_reducible rfl
                                  rotate_left
                                  · simp only [Act.put, List.setIfInBounds_toArray, List.set_cons_zero, List.set_cons_succ, i64_w, i32_w]
                                    rfl
                                  refine done_ (done_of HT_.out (by kernel_rfl)) ?_
                                  have hnb69 := NB212_199.out
                                  have hnc69 := NB199_212.out
                                  have hcz70_0 : w67.cell? ⟨gb212, 0, none⟩ = some (.int .i64 t206) := (blk_cell BK212.out 0).trans rfl
                                  have hcz70_1 : w67.cell? ⟨gb212, 1, none⟩ = some (.int .i64 t207) := (blk_cell BK212.out 1).trans rfl
                                  have hcz70_2 : w67.cell? ⟨gb212, 2, none⟩ = some (.int .i64 t208) := (blk_cell BK212.out 2).trans rfl
                                  have hfz70_0 := blk_frozen BK212.out 0
                                  have hfz70_1 := blk_frozen BK212.out 1
                                  have hfz70_2 := blk_frozen BK212.out 2
                                  have hcz71_0 : w67.cell? ⟨gb199, 0, none⟩ = some (.int .i64 x200000_1) := (blk_cell BK199.out 0).trans rfl
                                  have hcz71_1 : w67.cell? ⟨gb199, 1, none⟩ = some (.int .i64 x200001_1) := (blk_cell BK199.out 1).trans rfl
                                  have hcz71_2 : w67.cell? ⟨gb199, 2, none⟩ = some (.int .i64 x200002_1) := (blk_cell BK199.out 2).trans rfl
                                  have hfz71_0 := blk_frozen BK199.out 0
                                  have hfz71_1 := blk_frozen BK199.out 1
                                  have hfz71_2 := blk_frozen BK199.out 2
                                  try go_wp2
                                  go_roundg kj44
                                  case measure => have := HK1.out; have := HJ10.out; have := HJ40.out; have := HJ44.out; omega
                                  case rel => exact ⟨(x4_40), (wrap64 (x15_1 + 1)), (t206), (t207), (t208), (by first | rfl | (simp; done) | (simp [*]; done)), (by first | rfl | (simp; done) | (simp [*]; done)), H', ⟨by have := HK1.out; have := HJ10.out; have := HJ40.out; have := HJ44.out; omega⟩, ⟨by (with_reducible repeat (first | refine blk_drewN ?_ _ | refine blk_drew ?_ | refine blk_alloc ?_ _)); refine blk_put (cs := #[.int .i64 t206, .int .i64 t207, .int .i64 x200002_1]) ?_ 2 _ rfl; (with_reducible repeat (first | refine blk_drewN ?_ _ | refine blk_drew ?_ | refine blk_alloc ?_ _)); refine blk_put (cs := #[.int .i64 t206, .int .i64 x200001_1, .int .i64 x200002_1]) ?_ 1 _ rfl; (with_reducible repeat (first | refine blk_drewN ?_ _ | refine blk_drew ?_ | refine blk_alloc ?_ _)); refine blk_put (cs := #[.int .i64 x200000_1, .int .i64 x200001_1, .int .i64 x200002_1]) ?_ 0 _ rfl; (with_reducible repeat (first | refine blk_drewN ?_ _ | refine blk_drew ?_ | refine blk_alloc ?_ _)); exact BK199.out⟩, ⟨by repeat (first | (with_reducible first | exact HB.out | apply below_alloc | apply pw_below_drewN | apply below_drew1 | refine below_set ?_ GE199.out | refine below_set ?_ GE212.out) | exact HB.out)⟩⟩
                                · rw [if_neg c65] at H
                                  have c65b0 : ((t216.length : Int) == (ji64)) = false := beq_eq_false_iff_ne.mpr c65
                                  have c65b1 : ((t216.length : Int) != (ji64)) = true := bne_iff_ne.mpr c65
                                  exact absurd ((Option.some.inj H).trans hT_.out) (by decide)
            · rw [if_neg c9] at H
              exact absurd H (by simp)
          · rw [if_neg c8] at H
            exact absurd H (by simp)
        · rw [if_neg c7] at H
          have c7b0 : decide (x15_1 < (l0.length : Int)) = false := decide_eq_false c7
          clear c7
          replace H := Option.bind_eq_some_iff.mp H
          obtain ⟨t200, A720, H⟩ := H
          replace H : ((polyptychref1_SameRunes.f t200 ([] : List Int)).bind fun t203 => (if t203 = true then ((polyptychlaw1_awake.f k1).bind fun t204 => (some t204)) else (some false))) = some r := H
          have A72 := Aside0.mk A720
          clear A720
          replace H := Option.bind_eq_some_iff.mp H
          obtain ⟨t203, A730, H⟩ := H
          replace H : (if t203 = true then ((polyptychlaw1_awake.f k1).bind fun t204 => (some t204)) else (some false)) = some r := H
          have A73 := Aside0.mk A730
          clear A730
          by_cases c74 : t203 = true
          · subst c74
            have H1 : ((polyptychlaw1_awake.f k1).bind fun t204 => (some t204)) = some r := by rw [if_pos rfl] at H; exact H
            clear H
            have H := H1
            clear H1
            replace H := Option.bind_eq_some_iff.mp H
            obtain ⟨t204, A750, H⟩ := H
            replace H : (some t204) = some r := H
            have A75 := Aside0.mk A750
            clear A750
            obtain rfl := Option.some.inj H
            go_wp2_with (first | ((with_reducible refine gate_callee (f := 8) rfl ?_); refine goesL_ (some 82) rfl rfl Try.func8 (by kernel_rfl) rfl #[.agg #[.int .i64 0, .int .i64 0, .int .i64 0]] rfl (by (try simp only [List.map_toArray, List.map_cons, List.map_nil]); first | done | rfl | (simp only [List.length_drop, List.length_take]; rfl)) ?_; (with_reducible refine (utfd_End.calls 0 0 0 t200 _ A72.out).mono ?_); rintro e w76 ⟨v201, rfl, ho0, hb⟩; refine ⟨_, rfl, ?_⟩; have n0_ := Aside0.mk (Kd.R_lower ho0 (below_size (by repeat (first | (with_reducible first | exact HB.out | apply below_alloc | apply pw_below_drewN | apply below_drew1 | refine below_set ?_ GE199.out) | exact HB.out)))); have n1_ := Aside0.mk (blk_below (g := gb199) (o := .cells #[.int .i64 x200000_1, .int .i64 x200001_1, .int .i64 x200002_1] 25 (0, 0)) (by (with_reducible repeat (first | refine blk_drewN ?_ _ | refine blk_drew ?_ | refine blk_alloc ?_ _)); exact BK199.out) hb); have n2_ := Aside0.mk (below_step (by repeat (first | (with_reducible first | exact HB.out | apply below_alloc | apply pw_below_drewN | apply below_drew1 | refine below_set ?_ GE199.out) | exact HB.out)) hb); clear BK199; clear HB; have HO202 := n0_; have BK199 := n1_; have HB := n2_; clear n0_ n1_ n2_; (try clear hb); (try clear hb2); (try clear hk); (try clear hi); (try clear ho0); obtain ⟨Ao77, co77, eo77⟩ := Kd.R_slice HO202.out; subst eo77) | ((with_reducible refine gate_callee (f := 10) rfl ?_); refine goesL_ (some 83) rfl rfl Try.func10 (by kernel_rfl) rfl #[.slice Ao77 t200.length co77, .slice none 0 0] rfl (by (try simp only [List.map_toArray, List.map_cons, List.map_nil]); first | done | rfl | (simp only [List.length_drop, List.length_take]; rfl)) ?_; (refine (polyptychref1_SameRunes.calls _ _ t200 _ _ ([] : List Int) true _ ?side1 ?side2 ?side3 ?side4 A73.out).mono ?_); (case side1 => repeat (first | exact (Kd.R_reads' HO202.out).2.2 | (with_reducible refine Kd.C_alloc ?_ _) | (with_reducible refine Kd.C_drewN ?_ _) | (with_reducible refine Kd.C_drew ?_))); (case side2 => exact (Kd.R_reads' HO202.out).2.1); (case side3 => exact Kd.C_nil _ _); (case side4 => exact Nat.le_refl _); rintro e w' ⟨rfl, ⟨nd, rfl⟩⟩; refine ⟨_, rfl, ?_⟩) | (go_at_call 9; (with_reducible refine (polyptychlaw1_awake.calls k1  t204 _ A75.out).mono ?_); rintro e w78 ⟨rfl, hb⟩; have n0_ := Aside0.mk (Kd.R_below (by (with_reducible repeat (first | apply Kd.R_alloc | apply Kd.R_drewN | apply Kd.R_drew)); exact HO202.out) hb); have n1_ := Aside0.mk (blk_below (g := gb199) (o := .cells #[.int .i64 x200000_1, .int .i64 x200001_1, .int .i64 x200002_1] 25 (0, 0)) (by (with_reducible repeat (first | refine blk_drewN ?_ _ | refine blk_drew ?_ | refine blk_alloc ?_ _)); exact BK199.out) hb); have n2_ := Aside0.mk (below_step (by repeat (first | (with_reducible first | exact HB.out | apply below_alloc | apply pw_below_drewN | apply below_drew1 | refine below_set ?_ GE199.out) | exact HB.out)) hb); clear HO202; clear BK199; clear HB; have HO202 := n0_; have BK199 := n1_; have HB := n2_; clear n0_ n1_ n2_; (try clear hb); (try clear hb2); (try clear hk); (try clear hi)))
            go_ret
            exact ⟨by first | rfl | (simp [errW_none, errW_some] <;> rfl) | (simp [*, errW_none, errW_some] <;> rfl), by repeat (first | (with_reducible first | exact HB.out | apply below_alloc | apply pw_below_drewN | apply below_drew1 | refine below_set ?_ GE199.out) | exact HB.out)⟩
          · replace c74 := Bool.eq_false_iff.mpr c74
            subst c74
            have H1 : (some false) = some r := by rw [if_neg (show ¬ (false = true) by decide)] at H; exact H
            clear H
            have H := H1
            clear H1
            exact absurd ((Option.some.inj H).trans hT_.out) (by decide)

/-- THE ONE PURE STATEMENT of polyptychlaw1_UtfdCounts: yours. -/
def polyptychlaw1_UtfdCounts.Pure : Prop := ∀ (l0 : List Int), l0.length ≤ maxLen → l0.length * 1 ≤ 140737488351232 → (∀ x ∈ l0, (Lit.int .u8 x).wf = true) → ∃ k, polyptychlaw1_UtfdCounts.f k l0 = some true
theorem polyptychlaw1_UtfdCounts.walk (P : polyptychlaw1_UtfdCounts.Pure) (a0 : Option Addr) (len0 cap0 : Nat) (z0 : List Int) (w : World) (w0 : (a0 = none ∧ len0 = 0 ∧ cap0 = 0 ∧ z0 = []) ∨ ∃ x, a0 = some x ∧ len0 ≤ cap0 ∧ cap0 ≤ maxLen ∧ z0.length = cap0 ∧ (∀ i, i < z0.length → w.cell? (x.add i) = some (.int .u8 (z0.getD i 0))) ∧ ∀ n ∈ z0, (Lit.int .u8 n).wf = true) (y0 : len0 * 1 ≤ 140737488351232) :
    Calls Try.prog 4 #[.slice a0 len0 cap0] w fun e w' => e = .returned (.bool true) ∧ Below w.heap.size w w' := by
  obtain ⟨l0, rfl, hr0, hm0, hw0, hc0⟩ := ReadsInt.ofRowC w0
  obtain ⟨k, h⟩ := P l0 hm0 y0 hw0
  refine (polyptychlaw1_UtfdCounts.calls k _ _ l0 true w (Kd.C_of_reads (d := (0 : Int)) (h1 := fun _ => rfl) hr0) hc0 h (Aside0.mk rfl)).mono ?_
  rintro e w' ⟨rfl, hd⟩
  exact ⟨rfl, hd⟩

end Go.Proofs.Ytdfklcbcidopfaa.PUtfdCounts
