-- Written by a program of this session over the print of the kit (functions marked FOREIGN are proved by this session).
import Derived.Test.YtdfklcbcidopfaaPUtfdBackx0
import Derived.Test.YtdfklcbcidopfaaPUtfdBackx2
namespace Go.Proofs.Ytdfklcbcidopfaa.PUtfdBack
open Go.RowKit Go.Proofs.YtdfklcbcidopfaaW.PrintWords Go.Proofs.YtdfklcbcidopfaaW.PrintLast Go.Proofs.YtdfklcbcidopfaaW.PrintMore
attribute [local go_sem] max2_int min2_int max_two min_two max_three min_three max_four min_four   -- for this text's walks alone
set_option linter.unusedVariables false
set_option linter.unusedSimpArgs false

/-! ### utfd_Step: function 7 -/
def utfd_Step.j0 : Nat → Int → Bool → Int → Int → Int → Option (Int × Int × Int × List Int)
  | 0, _, _, _, _, _ => none
  | k + 1, x1, x20, x112000, x112001, x112002 => if x20 = true then ((utfd_begin.f k x1).bind fun bt119 => ((some (([65533] : List Int) : List Int)).bind fun y126 => (if y126.length + bt119.2.2.2.length < 35184372088832 then (some (bt119.1, bt119.2.1, bt119.2.2.1, (y126 ++ bt119.2.2.2))) else (none)))) else (if (wrap64 (x112000 - 1)) > 0 then (some (wrap64 (x112000 - 1), x112001, wrap64 ((wrap64 (64 * x112002)) + (wrap64 (Go.bits .and .u8 x1 63))), ([] : List Int))) else (if (wrap64 ((wrap64 (64 * x112002)) + (wrap64 (Go.bits .and .u8 x1 63)))) < x112001 then (some (0, 0, 0, (([65533] : List Int)))) else ((utfd_no.f (wrap64 ((wrap64 (64 * x112002)) + (wrap64 (Go.bits .and .u8 x1 63))))).bind fun t135 => (if t135 = true then (some (0, 0, 0, (([65533] : List Int)))) else (some (0, 0, 0, (([wrap32 (wrap64 ((wrap64 (64 * x112002)) + (wrap64 (Go.bits .and .u8 x1 63))))] : List Int))))))))
def utfd_Step.f (k : Nat) (a0_0 : Int) (a0_1 : Int) (a0_2 : Int) (a1 : Int) : Option (Int × Int × Int × List Int) := if a0_0 ≤ 0 then ((utfd_begin.f k a1).bind fun bt113 => (some (bt113.1, bt113.2.1, bt113.2.2.1, bt113.2.2.2))) else (if a1 < 128 then (utfd_Step.j0 k a1 true a0_0 a0_1 a0_2) else (utfd_Step.j0 k a1 (decide (a1 > 191)) a0_0 a0_1 a0_2))
theorem utfd_Step.mono_l : ∀ k, (∀ y0 y1 y2 y3 y4, LeO (utfd_Step.j0 k y0 y1 y2 y3 y4) (utfd_Step.j0 (k + 1) y0 y1 y2 y3 y4))
  | 0 => fun _ _ _ _ _ r h => by simp [utfd_Step.j0] at h
  | k + 1 => by
    have ih0 := utfd_Step.mono_l k
    · intro y0 y1 y2 y3 y4
      unfold utfd_Step.j0
      repeat' first
      | (with_reducible exact ih0 _ _ _ _ _)
      | (with_reducible exact utfd_begin.mono _ _)
      | (with_reducible exact LeO.refl _)
      | (with_reducible exact LeO.none _)
      | (with_reducible refine LeO.ite ?_ ?_)
      | (with_reducible refine LeO.bind ?_ (fun _ => ?_))
      | exact ih0 _ _ _ _ _
      | exact utfd_begin.mono _ _
      | exact LeO.none _
      | refine LeO.ite ?_ ?_
      | refine LeO.bind ?_ (fun _ => ?_)
theorem utfd_Step.mono : ∀ a0 a1 a2 a3 k, LeO (utfd_Step.f k a0 a1 a2 a3) (utfd_Step.f (k + 1) a0 a1 a2 a3) := by
  intro a0 a1 a2 a3 k
  have ih0 := utfd_Step.mono_l k
  unfold utfd_Step.f
  repeat' first
      | (with_reducible exact ih0 _ _ _ _ _)
      | (with_reducible exact utfd_begin.mono _ _)
      | (with_reducible exact LeO.refl _)
      | (with_reducible exact LeO.none _)
      | (with_reducible refine LeO.ite ?_ ?_)
      | (with_reducible refine LeO.bind ?_ (fun _ => ?_))
      | exact ih0 _ _ _ _ _
      | exact utfd_begin.mono _ _
      | exact LeO.none _
      | refine LeO.ite ?_ ?_
      | refine LeO.bind ?_ (fun _ => ?_)
def utfd_Step.T11 : Bool × List (List Nat × List Nat) := (true, [([], []), ([], []), ([1], [1]), ([2], [2]), ([3], [3]), ([0, 0], [0]), ([4, 5, 0, 1, 2, 3, 4, 5], [4])])
def utfd_Step.B11 : List Nat := [0, 0, 2, 6, 14, 1, 63]
theorem utfd_Step.tab11 : rtab .any (opsOf Try.f7 11) = utfd_Step.T11 := by kernel_rfl
theorem utfd_Step.bits11 : waitsOk utfd_Step.T11.2 utfd_Step.B11 = true := by kernel_rfl
set_option maxHeartbeats 8000000 in
set_option maxRecDepth 100000 in
theorem utfd_Step.calls (k : Nat) (a0_0 : Int) (a0_1 : Int) (a0_2 : Int) (a1 : Int) (r1 : Int) (r2 : Int) (r3 : Int) (r4 : List Int) (w : World) (h : utfd_Step.f k a0_0 a0_1 a0_2 a1 = some (r1, r2, r3, r4)) :
    Calls Try.prog 7 #[.agg #[.int .i64 a0_0, .int .i64 a0_1, .int .i64 a0_2], .int .u8 a1] w fun e w' => ∃ v3_ : Value, e = .returned (.tuple #[.agg #[.int .i64 r1, .int .i64 r2, .int .i64 r3], v3_]) ∧ Kd.R (Kd.int .i32) 21 w' w.heap.size (fun _ => True) v3_ r4 ∧ Below w.heap.size w w' := by
  have hu25 := Try.underlying25
  have HB := Aside0.mk (Below.refl w.heap.size w)
  have H : (if a0_0 ≤ 0 then ((utfd_begin.f k a1).bind fun bt113 => (some (bt113.1, bt113.2.1, bt113.2.2.1, bt113.2.2.2))) else (if a1 < 128 then (utfd_Step.j0 k a1 true a0_0 a0_1 a0_2) else (utfd_Step.j0 k a1 (decide (a1 > 191)) a0_0 a0_1 a0_2))) = some (r1, r2, r3, r4) := h
  clear h
  by_cases c3 : a0_0 ≤ 0
  · rw [if_pos c3] at H
    have c3b0 : decide (a0_0 ≤ 0) = true := decide_eq_true c3
    clear c3
    replace H := Option.bind_eq_some_iff.mp H
    obtain ⟨⟨t113, t114, t115, t116⟩, A40, H⟩ := H
    replace H : (some (t113, t114, t115, t116)) = some (r1, r2, r3, r4) := H
    have A4 := Aside0.mk A40
    clear A40
    simp only [Option.some.injEq, Prod.mk.injEq] at H
    obtain ⟨rfl, rfl, rfl, rfl⟩ := H
    go_enter Try.func7, Try.ntmps7
    go_wp2_with (first | ((with_reducible refine gate_dst (N := 2) rfl ?_); refine box_event ?hg (N := 2) ?hd (cs := #[.int .i64 a0_0, .int .i64 a0_1, .int .i64 a0_2]) (t := 25) ?hr ?_; (case hd => rfl); (case hg => rfl); (case hr => first | (go_simp; done) | (go_simp; rfl)); intro gb111 hg w5 hbox hb; have n0_ := Aside0.mk (below_step (by repeat (first | (with_reducible first | exact HB.out | apply below_alloc | apply pw_below_drewN | apply below_drew1) | exact HB.out)) hb); have n1_ := Aside0.mk (hbox); have n2_ := Aside0.mk ((by rw [hg]; exact (below_size (by repeat (first | (with_reducible first | exact HB.out | apply below_alloc | apply pw_below_drewN | apply below_drew1) | exact HB.out))) : w.heap.size ≤ gb111)); have n3_ := Aside0.mk ((by rw [hg]; exact (below_size (by repeat (first | (with_reducible first | exact HB.out | apply below_alloc | apply pw_below_drewN | apply below_drew1) | exact HB.out))) : w.heap.size ≤ gb111)); clear HB; have HB := n0_; have BK111 := n1_; have GW111 := n2_; have GE111 := n3_; clear n0_ n1_ n2_ n3_; clear hb hbox hg) | ((with_reducible refine gate_dst (N := 4) rfl ?_); refine box_event ?hg (N := 4) ?hd (cs := #[.int .i64 0, .int .i64 0, .int .i64 0]) (t := 25) ?hr ?_; (case hd => rfl); (case hg => rfl); (case hr => first | (go_simp; done) | (go_simp; rfl)); intro gb112 hg w6 hbox hb; have n0_ := Aside0.mk (blk_below (g := gb111) (o := .cells #[.int .i64 a0_0, .int .i64 a0_1, .int .i64 a0_2] 25 (0, 0)) (by (with_reducible repeat (first | refine blk_drewN ?_ _ | refine blk_drew ?_ | refine blk_alloc ?_ _)); exact BK111.out) hb); have n1_ := Aside0.mk (below_step (by repeat (first | (with_reducible first | exact HB.out | apply below_alloc | apply pw_below_drewN | apply below_drew1 | refine below_set ?_ GE111.out) | exact HB.out)) hb); have n2_ := Aside0.mk (hbox); have n3_ := Aside0.mk ((by rw [hg]; exact (below_size (by repeat (first | (with_reducible first | exact HB.out | apply below_alloc | apply pw_below_drewN | apply below_drew1 | refine below_set ?_ GE111.out) | exact HB.out))) : w.heap.size ≤ gb112)); have n4_ := Aside0.mk ((by rw [hg]; exact (below_size (by repeat (first | (with_reducible first | exact HB.out | apply below_alloc | apply pw_below_drewN | apply below_drew1 | refine below_set ?_ GE111.out) | exact HB.out))) : w.heap.size ≤ gb112)); have n5_ := Aside0.mk ((by rw [hg]; exact Nat.ne_of_lt (blk_lt (g := gb111) (o := .cells #[.int .i64 a0_0, .int .i64 a0_1, .int .i64 a0_2] 25 (0, 0)) (by (with_reducible repeat (first | refine blk_drewN ?_ _ | refine blk_drew ?_ | refine blk_alloc ?_ _)); exact BK111.out)) : gb111 ≠ gb112)); have n6_ := Aside0.mk ((by rw [hg]; exact Nat.ne_of_gt (blk_lt (g := gb111) (o := .cells #[.int .i64 a0_0, .int .i64 a0_1, .int .i64 a0_2] 25 (0, 0)) (by (with_reducible repeat (first | refine blk_drewN ?_ _ | refine blk_drew ?_ | refine blk_alloc ?_ _)); exact BK111.out)) : gb112 ≠ gb111)); clear BK111; clear HB; have BK111 := n0_; have HB := n1_; have BK112 := n2_; have GW112 := n3_; have GE112 := n4_; have NB111_112 := n5_; have NB112_111 := n6_; clear n0_ n1_ n2_ n3_ n4_ n5_ n6_; clear hb hbox hg; have hnb7 := NB111_112.out; have hnc7 := NB112_111.out; have hcz8_0 : w6.cell? ⟨gb111, 0, none⟩ = some (.int .i64 a0_0) := (blk_cell BK111.out 0).trans rfl; have hcz8_1 : w6.cell? ⟨gb111, 1, none⟩ = some (.int .i64 a0_1) := (blk_cell BK111.out 1).trans rfl; have hcz8_2 : w6.cell? ⟨gb111, 2, none⟩ = some (.int .i64 a0_2) := (blk_cell BK111.out 2).trans rfl; have hfz8_0 := blk_frozen BK111.out 0; have hfz8_1 := blk_frozen BK111.out 1; have hfz8_2 := blk_frozen BK111.out 2) | ((with_reducible refine gate_callee (f := 15) rfl ?_); refine goesL_ (some 12) rfl rfl Try.func15 (by kernel_rfl) rfl #[.int .u8 a1] rfl (by (try simp only [List.map_toArray, List.map_cons, List.map_nil]); first | done | rfl | (simp only [List.length_drop, List.length_take]; rfl)) ?_; (with_reducible refine (utfd_begin.calls k a1 t113 t114 t115 t116 _ A4.out).mono ?_); rintro e w9 ⟨v117, rfl, ho0, hb⟩; refine ⟨_, rfl, ?_⟩; have n0_ := Aside0.mk (Kd.R_lower ho0 (below_size (by repeat (first | (with_reducible first | exact HB.out | apply below_alloc | apply pw_below_drewN | apply below_drew1 | refine below_set ?_ GE111.out | refine below_set ?_ GE112.out) | exact HB.out)))); have n1_ := Aside0.mk (blk_below (g := gb111) (o := .cells #[.int .i64 a0_0, .int .i64 a0_1, .int .i64 a0_2] 25 (0, 0)) (by (with_reducible repeat (first | refine blk_drewN ?_ _ | refine blk_drew ?_ | refine blk_alloc ?_ _)); exact BK111.out) hb); have n2_ := Aside0.mk (blk_below (g := gb112) (o := .cells #[.int .i64 0, .int .i64 0, .int .i64 0] 25 (0, 0)) (by (with_reducible repeat (first | refine blk_drewN ?_ _ | refine blk_drew ?_ | refine blk_alloc ?_ _)); exact BK112.out) hb); have n3_ := Aside0.mk (below_step (by repeat (first | (with_reducible first | exact HB.out | apply below_alloc | apply pw_below_drewN | apply below_drew1 | refine below_set ?_ GE111.out | refine below_set ?_ GE112.out) | exact HB.out)) hb); clear BK111; clear BK112; clear HB; have HO118 := n0_; have BK111 := n1_; have BK112 := n2_; have HB := n3_; clear n0_ n1_ n2_ n3_; (try clear hb); (try clear hb2); (try clear hk); (try clear hi); (try clear ho0); have hcz10_0 : w9.cell? ⟨gb112, 0, none⟩ = some (.int .i64 0) := (blk_cell BK112.out 0).trans rfl; have hcz10_1 : w9.cell? ⟨gb112, 1, none⟩ = some (.int .i64 0) := (blk_cell BK112.out 1).trans rfl; have hcz10_2 : w9.cell? ⟨gb112, 2, none⟩ = some (.int .i64 0) := (blk_cell BK112.out 2).trans rfl; have hfz10_0 := blk_frozen BK112.out 0; have hfz10_1 := blk_frozen BK112.out 1; have hfz10_2 := blk_frozen BK112.out 2))
    refine bodyPost_ret (results_ct rfl _ _ gb112 25 #[.int .i64 t113, .int .i64 t114, .int .i64 t115] (0, 0) _ rfl (by (with_reducible repeat (first | refine blk_drewN ?_ _ | refine blk_drew ?_ | refine blk_alloc ?_ _)); refine blk_put (cs := #[.int .i64 t113, .int .i64 t114, .int .i64 0]) ?_ 2 _ rfl; (with_reducible repeat (first | refine blk_drewN ?_ _ | refine blk_drew ?_ | refine blk_alloc ?_ _)); refine blk_put (cs := #[.int .i64 t113, .int .i64 0, .int .i64 0]) ?_ 1 _ rfl; (with_reducible repeat (first | refine blk_drewN ?_ _ | refine blk_drew ?_ | refine blk_alloc ?_ _)); refine blk_put (cs := #[.int .i64 0, .int .i64 0, .int .i64 0]) ?_ 0 _ rfl; (with_reducible repeat (first | refine blk_drewN ?_ _ | refine blk_drew ?_ | refine blk_alloc ?_ _)); exact BK112.out) Try.underlying25 rfl (by kernel_rfl)) rfl ?_
    exact ⟨_, by first | rfl | (simp [errW_none, errW_some] <;> rfl) | (simp [*, errW_none, errW_some] <;> rfl), by (with_reducible repeat (first | apply Kd.R_alloc | apply Kd.R_drewN | apply Kd.R_drew)); exact Kd.R_mono (Kd.R_far (p := ⟨gb112, 2, none⟩) (Kd.R_far (p := ⟨gb112, 1, none⟩) (Kd.R_far (p := ⟨gb112, 0, none⟩) (Kd.R_types HO118.out BK112.out (by decide)) (fun _ hk => hk.2) (.int .i64 t113)) (fun _ hk => hk.2) (.int .i64 t114)) (fun _ hk => hk.2) (.int .i64 t115)) (fun _ hk => trivial), by repeat (first | (with_reducible first | exact HB.out | apply below_alloc | apply pw_below_drewN | apply below_drew1 | refine below_set ?_ GE111.out | refine below_set ?_ GE112.out) | exact HB.out)⟩
  · rw [if_neg c3] at H
    have c3b0 : decide (a0_0 ≤ 0) = false := decide_eq_false c3
    clear c3
    have HC11 := Aside0.mk H
    clear H
    go_enter Try.func7, Try.ntmps7
    go_upto_region 3 with (first | ((with_reducible refine gate_dst (N := 2) rfl ?_); refine box_event ?hg (N := 2) ?hd (cs := #[.int .i64 a0_0, .int .i64 a0_1, .int .i64 a0_2]) (t := 25) ?hr ?_; (case hd => rfl); (case hg => rfl); (case hr => first | (go_simp; done) | (go_simp; rfl)); intro gb111 hg w12 hbox hb; have n0_ := Aside0.mk (below_step (by repeat (first | (with_reducible first | exact HB.out | apply below_alloc | apply pw_below_drewN | apply below_drew1) | exact HB.out)) hb); have n1_ := Aside0.mk (hbox); have n2_ := Aside0.mk ((by rw [hg]; exact (below_size (by repeat (first | (with_reducible first | exact HB.out | apply below_alloc | apply pw_below_drewN | apply below_drew1) | exact HB.out))) : w.heap.size ≤ gb111)); have n3_ := Aside0.mk ((by rw [hg]; exact (below_size (by repeat (first | (with_reducible first | exact HB.out | apply below_alloc | apply pw_below_drewN | apply below_drew1) | exact HB.out))) : w.heap.size ≤ gb111)); clear HB; have HB := n0_; have BK111 := n1_; have GW111 := n2_; have GE111 := n3_; clear n0_ n1_ n2_ n3_; clear hb hbox hg) | ((with_reducible refine gate_dst (N := 4) rfl ?_); refine box_event ?hg (N := 4) ?hd (cs := #[.int .i64 0, .int .i64 0, .int .i64 0]) (t := 25) ?hr ?_; (case hd => rfl); (case hg => rfl); (case hr => first | (go_simp; done) | (go_simp; rfl)); intro gb112 hg w13 hbox hb; have n0_ := Aside0.mk (blk_below (g := gb111) (o := .cells #[.int .i64 a0_0, .int .i64 a0_1, .int .i64 a0_2] 25 (0, 0)) (by (with_reducible repeat (first | refine blk_drewN ?_ _ | refine blk_drew ?_ | refine blk_alloc ?_ _)); exact BK111.out) hb); have n1_ := Aside0.mk (below_step (by repeat (first | (with_reducible first | exact HB.out | apply below_alloc | apply pw_below_drewN | apply below_drew1 | refine below_set ?_ GE111.out) | exact HB.out)) hb); have n2_ := Aside0.mk (hbox); have n3_ := Aside0.mk ((by rw [hg]; exact (below_size (by repeat (first | (with_reducible first | exact HB.out | apply below_alloc | apply pw_below_drewN | apply below_drew1 | refine below_set ?_ GE111.out) | exact HB.out))) : w.heap.size ≤ gb112)); have n4_ := Aside0.mk ((by rw [hg]; exact (below_size (by repeat (first | (with_reducible first | exact HB.out | apply below_alloc | apply pw_below_drewN | apply below_drew1 | refine below_set ?_ GE111.out) | exact HB.out))) : w.heap.size ≤ gb112)); have n5_ := Aside0.mk ((by rw [hg]; exact Nat.ne_of_lt (blk_lt (g := gb111) (o := .cells #[.int .i64 a0_0, .int .i64 a0_1, .int .i64 a0_2] 25 (0, 0)) (by (with_reducible repeat (first | refine blk_drewN ?_ _ | refine blk_drew ?_ | refine blk_alloc ?_ _)); exact BK111.out)) : gb111 ≠ gb112)); have n6_ := Aside0.mk ((by rw [hg]; exact Nat.ne_of_gt (blk_lt (g := gb111) (o := .cells #[.int .i64 a0_0, .int .i64 a0_1, .int .i64 a0_2] 25 (0, 0)) (by (with_reducible repeat (first | refine blk_drewN ?_ _ | refine blk_drew ?_ | refine blk_alloc ?_ _)); exact BK111.out)) : gb112 ≠ gb111)); clear BK111; clear HB; have BK111 := n0_; have HB := n1_; have BK112 := n2_; have GW112 := n3_; have GE112 := n4_; have NB111_112 := n5_; have NB112_111 := n6_; clear n0_ n1_ n2_ n3_ n4_ n5_ n6_; clear hb hbox hg; have hnb14 := NB111_112.out; have hnc14 := NB112_111.out; have hcz15_0 : w13.cell? ⟨gb111, 0, none⟩ = some (.int .i64 a0_0) := (blk_cell BK111.out 0).trans rfl; have hcz15_1 : w13.cell? ⟨gb111, 1, none⟩ = some (.int .i64 a0_1) := (blk_cell BK111.out 1).trans rfl; have hcz15_2 : w13.cell? ⟨gb111, 2, none⟩ = some (.int .i64 a0_2) := (blk_cell BK111.out 2).trans rfl; have hfz15_0 := blk_frozen BK111.out 0; have hfz15_1 := blk_frozen BK111.out 1; have hfz15_2 := blk_frozen BK111.out 2))
    (try simp only [Act.put, List.setIfInBounds_toArray, List.set_cons_zero, List.set_cons_succ])
    go_cut [20] (fun v20 wc => ∃ (kq : Nat) (x20_10 : Bool), v20 = .bool x20_10 ∧ Aside0 (utfd_Step.j0 kq a1 x20_10 a0_0 a0_1 a0_2 = some (r1, r2, r3, r4)) ∧ Aside0 (kq ≤ k) ∧ Aside0 (wc.heap[gb111]? = some (.cells #[.int .i64 a0_0, .int .i64 a0_1, .int .i64 a0_2] 25 (0, 0))) ∧ Aside0 (wc.heap[gb112]? = some (.cells #[.int .i64 0, .int .i64 0, .int .i64 0] 25 (0, 0))) ∧ Aside0 (Below w.heap.size w wc))
    case first =>
      have H := HC11.out
      clear HC11
      by_cases c16 : a1 < 128
      · rw [if_pos c16] at H
        have c16b0 : decide (a1 < 128) = true := decide_eq_true c16
        clear c16
        (first | rw [c16b0] | (simp only [i64_w, i32_w]; rw [c16b0]) | skip)
        have H' := Aside0.mk H
        clear H
        go_wp2
        go_meet
        case rel => exact ⟨_, (true), (by first | rfl | (simp; done) | (simp [*]; done)), H', ⟨by first | omega | exact Nat.le_refl _⟩, ⟨by (with_reducible repeat (first | refine blk_drewN ?_ _ | refine blk_drew ?_ | refine blk_alloc ?_ _)); exact BK111.out⟩, ⟨by (with_reducible repeat (first | refine blk_drewN ?_ _ | refine blk_drew ?_ | refine blk_alloc ?_ _)); exact BK112.out⟩, ⟨by repeat (first | (with_reducible first | exact HB.out | apply below_alloc | apply pw_below_drewN | apply below_drew1 | refine below_set ?_ GE111.out | refine below_set ?_ GE112.out) | exact HB.out)⟩⟩
      · rw [if_neg c16] at H
        have c16b0 : decide (a1 < 128) = false := decide_eq_false c16
        clear c16
        (first | rw [c16b0] | (simp only [i64_w, i32_w]; rw [c16b0]) | skip)
        have H' := Aside0.mk H
        clear H
        go_wp2
        go_meet
        case rel => exact ⟨_, (decide (a1 > 191)), (by first | rfl | (simp; done) | (simp [*]; done)), H', ⟨by first | omega | exact Nat.le_refl _⟩, ⟨by (with_reducible repeat (first | refine blk_drewN ?_ _ | refine blk_drew ?_ | refine blk_alloc ?_ _)); exact BK111.out⟩, ⟨by (with_reducible repeat (first | refine blk_drewN ?_ _ | refine blk_drew ?_ | refine blk_alloc ?_ _)); exact BK112.out⟩, ⟨by repeat (first | (with_reducible first | exact HB.out | apply below_alloc | apply pw_below_drewN | apply below_drew1 | refine below_set ?_ GE111.out | refine below_set ?_ GE112.out) | exact HB.out)⟩⟩
    case rest =>
      clear HC11
      try clear c1
      try clear p2
      try clear c3
      try clear c3b0
      try clear c7
      try clear c14
      try clear c15
      try clear c16
      try clear c16b0
      try clear hcz10_0
      try clear hcz10_1
      try clear hcz10_2
      try clear hcz15_0
      try clear hcz15_1
      try clear hcz15_2
      try clear hcz8_0
      try clear hcz8_1
      try clear hcz8_2
      try clear hfz10_0
      try clear hfz10_1
      try clear hfz10_2
      try clear hfz15_0
      try clear hfz15_1
      try clear hfz15_2
      try clear hfz8_0
      try clear hfz8_1
      try clear hfz8_2
      obtain ⟨kq, x20_10, rfl, HA, HJ10, BK111, BK112, HB⟩ := hcut
      cases kq with
      | zero => exact absurd HA.out (by simp [utfd_Step.j0])
      | succ kj10 =>
        have H := HA.out
        clear HA
        simp only [utfd_Step.j0] at H
        by_cases c17 : x20_10 = true
        · subst c17
          have H1 : ((utfd_begin.f kj10 a1).bind fun bt119 => ((some (([65533] : List Int) : List Int)).bind fun y126 => (if y126.length + bt119.2.2.2.length < 35184372088832 then (some (bt119.1, bt119.2.1, bt119.2.2.1, (y126 ++ bt119.2.2.2))) else (none)))) = some (r1, r2, r3, r4) := by rw [if_pos rfl] at H; exact H
          clear H
          have H := H1
          clear H1
          replace H := Option.bind_eq_some_iff.mp H
          obtain ⟨⟨t119, t120, t121, t122⟩, A180, H⟩ := H
          replace H : ((some (([65533] : List Int) : List Int)).bind fun y126 => (if y126.length + t122.length < 35184372088832 then (some (t119, t120, t121, (y126 ++ t122))) else (none))) = some (r1, r2, r3, r4) := H
          have A18 := Aside0.mk A180
          clear A180
          obtain ⟨y126, hy126⟩ : ∃ y_ : List Int, y_ = (([65533] : List Int)) := ⟨_, rfl⟩
          replace H : (if y126.length + t122.length < 35184372088832 then (some (t119, t120, t121, (y126 ++ t122))) else (none)) = some (r1, r2, r3, r4) := by first | (rw [hy126]; with_reducible exact H) | (have H2_ := (Option.bind_some _ _).symm.trans H; rw [hy126]; with_reducible exact H2_) | (have H2_ := (Option.bind_some _ _).symm.trans H; with_reducible exact H2_) | with_reducible exact H | (rw [hy126]; exact H) | exact H
          have Ny126 := Aside0.mk hy126
          clear hy126
          by_cases c19 : y126.length + t122.length < 35184372088832
          · rw [if_pos c19] at H
            have LMc19 := Aside0.mk c19
            clear c19
            obtain ⟨y129, hy129⟩ : ∃ y_ : List Int, y_ = (y126 ++ t122) := ⟨_, rfl⟩
            replace H : (some (t119, t120, t121, y129)) = some (r1, r2, r3, r4) := by first | (rw [hy129]; with_reducible exact H) | (have H2_ := (Option.bind_some _ _).symm.trans H; rw [hy129]; with_reducible exact H2_) | (have H2_ := (Option.bind_some _ _).symm.trans H; with_reducible exact H2_) | with_reducible exact H | (rw [hy129]; exact H) | exact H
            have Ny129 := Aside0.mk hy129
            clear hy129
            simp only [Option.some.injEq, Prod.mk.injEq] at H
            obtain ⟨rfl, rfl, rfl, rfl⟩ := H
            try go_wp2_with (first | ((with_reducible refine gate_callee (f := 15) rfl ?_); refine goesL_ (some 23) rfl rfl Try.func15 (by kernel_rfl) rfl #[.int .u8 a1] rfl (by (try simp only [List.map_toArray, List.map_cons, List.map_nil]); first | done | rfl | (simp only [List.length_drop, List.length_take]; rfl)) ?_; (with_reducible refine (utfd_begin.calls kj10 a1 t119 t120 t121 t122 _ A18.out).mono ?_); rintro e w20 ⟨v123, rfl, ho0, hb⟩; refine ⟨_, rfl, ?_⟩; have n0_ := Aside0.mk (Kd.R_lower ho0 (below_size (by repeat (first | (with_reducible first | exact HB.out | apply below_alloc | apply pw_below_drewN | apply below_drew1 | refine below_set ?_ GE111.out | refine below_set ?_ GE112.out) | exact HB.out)))); have n1_ := Aside0.mk (blk_below (g := gb111) (o := .cells #[.int .i64 a0_0, .int .i64 a0_1, .int .i64 a0_2] 25 (0, 0)) (by (with_reducible repeat (first | refine blk_drewN ?_ _ | refine blk_drew ?_ | refine blk_alloc ?_ _)); exact BK111.out) hb); have n2_ := Aside0.mk (blk_below (g := gb112) (o := .cells #[.int .i64 0, .int .i64 0, .int .i64 0] 25 (0, 0)) (by (with_reducible repeat (first | refine blk_drewN ?_ _ | refine blk_drew ?_ | refine blk_alloc ?_ _)); exact BK112.out) hb); have n3_ := Aside0.mk (below_step (by repeat (first | (with_reducible first | exact HB.out | apply below_alloc | apply pw_below_drewN | apply below_drew1 | refine below_set ?_ GE111.out | refine below_set ?_ GE112.out) | exact HB.out)) hb); clear BK111; clear BK112; clear HB; have HO124 := n0_; have BK111 := n1_; have BK112 := n2_; have HB := n3_; clear n0_ n1_ n2_ n3_; (try clear hb); (try clear hb2); (try clear hk); (try clear hi); (try clear ho0)) | ((with_reducible refine gate_dst (N := 6) rfl ?_); refine box_event ?hg (N := 6) ?hd (cs := #[.int .i64 0, .int .i64 0, .int .i64 0]) (t := 25) ?hr ?_; (case hd => rfl); (case hg => rfl); (case hr => first | (go_simp; done) | (go_simp; rfl)); intro gb125 hg w21 hbox hb; have n0_ := Aside0.mk (Kd.R_below (by (with_reducible repeat (first | apply Kd.R_alloc | apply Kd.R_drewN | apply Kd.R_drew)); exact HO124.out) hb); have n1_ := Aside0.mk (blk_below (g := gb111) (o := .cells #[.int .i64 a0_0, .int .i64 a0_1, .int .i64 a0_2] 25 (0, 0)) (by (with_reducible repeat (first | refine blk_drewN ?_ _ | refine blk_drew ?_ | refine blk_alloc ?_ _)); exact BK111.out) hb); have n2_ := Aside0.mk (blk_below (g := gb112) (o := .cells #[.int .i64 0, .int .i64 0, .int .i64 0] 25 (0, 0)) (by (with_reducible repeat (first | refine blk_drewN ?_ _ | refine blk_drew ?_ | refine blk_alloc ?_ _)); exact BK112.out) hb); have n3_ := Aside0.mk (below_step (by repeat (first | (with_reducible first | exact HB.out | apply below_alloc | apply pw_below_drewN | apply below_drew1 | refine below_set ?_ GE111.out | refine below_set ?_ GE112.out) | exact HB.out)) hb); have n4_ := Aside0.mk (hbox); have n5_ := Aside0.mk ((by rw [hg]; exact (below_size (by repeat (first | (with_reducible first | exact HB.out | apply below_alloc | apply pw_below_drewN | apply below_drew1 | refine below_set ?_ GE111.out | refine below_set ?_ GE112.out) | exact HB.out))) : w.heap.size ≤ gb125)); have n6_ := Aside0.mk ((by rw [hg]; exact (below_size (by repeat (first | (with_reducible first | exact HB.out | apply below_alloc | apply pw_below_drewN | apply below_drew1 | refine below_set ?_ GE111.out | refine below_set ?_ GE112.out) | exact HB.out))) : w.heap.size ≤ gb125)); have n7_ := Aside0.mk ((by rw [hg]; exact Nat.ne_of_lt (blk_lt (g := gb111) (o := .cells #[.int .i64 a0_0, .int .i64 a0_1, .int .i64 a0_2] 25 (0, 0)) (by (with_reducible repeat (first | refine blk_drewN ?_ _ | refine blk_drew ?_ | refine blk_alloc ?_ _)); exact BK111.out)) : gb111 ≠ gb125)); have n8_ := Aside0.mk ((by rw [hg]; exact Nat.ne_of_gt (blk_lt (g := gb111) (o := .cells #[.int .i64 a0_0, .int .i64 a0_1, .int .i64 a0_2] 25 (0, 0)) (by (with_reducible repeat (first | refine blk_drewN ?_ _ | refine blk_drew ?_ | refine blk_alloc ?_ _)); exact BK111.out)) : gb125 ≠ gb111)); have n9_ := Aside0.mk ((by rw [hg]; exact Nat.ne_of_lt (blk_lt (g := gb112) (o := .cells #[.int .i64 0, .int .i64 0, .int .i64 0] 25 (0, 0)) (by (with_reducible repeat (first | refine blk_drewN ?_ _ | refine blk_drew ?_ | refine blk_alloc ?_ _)); exact BK112.out)) : gb112 ≠ gb125)); have n10_ := Aside0.mk ((by rw [hg]; exact Nat.ne_of_gt (blk_lt (g := gb112) (o := .cells #[.int .i64 0, .int .i64 0, .int .i64 0] 25 (0, 0)) (by (with_reducible repeat (first | refine blk_drewN ?_ _ | refine blk_drew ?_ | refine blk_alloc ?_ _)); exact BK112.out)) : gb125 ≠ gb112)); clear HO124; clear BK111; clear BK112; clear HB; have HO124 := n0_; have BK111 := n1_; have BK112 := n2_; have HB := n3_; have BK125 := n4_; have GW125 := n5_; have GE125 := n6_; have NB111_125 := n7_; have NB125_111 := n8_; have NB112_125 := n9_; have NB125_112 := n10_; clear n0_ n1_ n2_ n3_ n4_ n5_ n6_ n7_ n8_ n9_ n10_; clear hb hbox hg; have hnb22 := NB125_111.out; have hnc22 := NB111_125.out; have hnb23 := NB125_112.out; have hnc23 := NB112_125.out; have hcz24_0 : w21.cell? ⟨gb125, 0, none⟩ = some (.int .i64 0) := (blk_cell BK125.out 0).trans rfl; have hcz24_1 : w21.cell? ⟨gb125, 1, none⟩ = some (.int .i64 0) := (blk_cell BK125.out 1).trans rfl; have hcz24_2 : w21.cell? ⟨gb125, 2, none⟩ = some (.int .i64 0) := (blk_cell BK125.out 2).trans rfl; have hfz24_0 := blk_frozen BK125.out 0; have hfz24_1 := blk_frozen BK125.out 1; have hfz24_2 := blk_frozen BK125.out 2))
            have n0_ : Aside0 (Kd.R (Kd.int .i32) 21 (((w21.setCell ⟨gb125, 0, none⟩ (.int .i64 t119)).setCell ⟨gb125, 1, none⟩ (.int .i64 t120)).setCell ⟨gb125, 2, none⟩ (.int .i64 t121)) w.heap.size (fun _ => True) v123 t122) := ⟨by (with_reducible repeat (first | apply Kd.R_alloc | apply Kd.R_drewN | apply Kd.R_drew)); exact Kd.R_mono (Kd.R_far (p := ⟨gb125, 2, none⟩) (Kd.R_far (p := ⟨gb125, 1, none⟩) (Kd.R_far (p := ⟨gb125, 0, none⟩) (Kd.R_types HO124.out BK125.out (by decide)) (fun _ hk => hk.2) (.int .i64 t119)) (fun _ hk => hk.2) (.int .i64 t120)) (fun _ hk => hk.2) (.int .i64 t121)) (fun _ hk => trivial)⟩
            have n1_ : Aside0 ((((w21.setCell ⟨gb125, 0, none⟩ (.int .i64 t119)).setCell ⟨gb125, 1, none⟩ (.int .i64 t120)).setCell ⟨gb125, 2, none⟩ (.int .i64 t121)).heap[gb111]? = some (.cells #[.int .i64 a0_0, .int .i64 a0_1, .int .i64 a0_2] 25 (0, 0))) := ⟨by (with_reducible repeat (first | refine blk_drewN ?_ _ | refine blk_drew ?_ | refine blk_alloc ?_ _)); refine blk_far ?_ NB111_125.out _; (with_reducible repeat (first | refine blk_drewN ?_ _ | refine blk_drew ?_ | refine blk_alloc ?_ _)); refine blk_far ?_ NB111_125.out _; (with_reducible repeat (first | refine blk_drewN ?_ _ | refine blk_drew ?_ | refine blk_alloc ?_ _)); refine blk_far ?_ NB111_125.out _; (with_reducible repeat (first | refine blk_drewN ?_ _ | refine blk_drew ?_ | refine blk_alloc ?_ _)); exact BK111.out⟩
            have n2_ : Aside0 ((((w21.setCell ⟨gb125, 0, none⟩ (.int .i64 t119)).setCell ⟨gb125, 1, none⟩ (.int .i64 t120)).setCell ⟨gb125, 2, none⟩ (.int .i64 t121)).heap[gb112]? = some (.cells #[.int .i64 0, .int .i64 0, .int .i64 0] 25 (0, 0))) := ⟨by (with_reducible repeat (first | refine blk_drewN ?_ _ | refine blk_drew ?_ | refine blk_alloc ?_ _)); refine blk_far ?_ NB112_125.out _; (with_reducible repeat (first | refine blk_drewN ?_ _ | refine blk_drew ?_ | refine blk_alloc ?_ _)); refine blk_far ?_ NB112_125.out _; (with_reducible repeat (first | refine blk_drewN ?_ _ | refine blk_drew ?_ | refine blk_alloc ?_ _)); refine blk_far ?_ NB112_125.out _; (with_reducible repeat (first | refine blk_drewN ?_ _ | refine blk_drew ?_ | refine blk_alloc ?_ _)); exact BK112.out⟩
            have n3_ : Aside0 ((((w21.setCell ⟨gb125, 0, none⟩ (.int .i64 t119)).setCell ⟨gb125, 1, none⟩ (.int .i64 t120)).setCell ⟨gb125, 2, none⟩ (.int .i64 t121)).heap[gb125]? = some (.cells #[.int .i64 t119, .int .i64 t120, .int .i64 t121] 25 (0, 0))) := ⟨by (with_reducible repeat (first | refine blk_drewN ?_ _ | refine blk_drew ?_ | refine blk_alloc ?_ _)); refine blk_put (cs := #[.int .i64 t119, .int .i64 t120, .int .i64 0]) ?_ 2 _ rfl; (with_reducible repeat (first | refine blk_drewN ?_ _ | refine blk_drew ?_ | refine blk_alloc ?_ _)); refine blk_put (cs := #[.int .i64 t119, .int .i64 0, .int .i64 0]) ?_ 1 _ rfl; (with_reducible repeat (first | refine blk_drewN ?_ _ | refine blk_drew ?_ | refine blk_alloc ?_ _)); refine blk_put (cs := #[.int .i64 0, .int .i64 0, .int .i64 0]) ?_ 0 _ rfl; (with_reducible repeat (first | refine blk_drewN ?_ _ | refine blk_drew ?_ | refine blk_alloc ?_ _)); exact BK125.out⟩
            have n4_ : Aside0 (Below w.heap.size w (((w21.setCell ⟨gb125, 0, none⟩ (.int .i64 t119)).setCell ⟨gb125, 1, none⟩ (.int .i64 t120)).setCell ⟨gb125, 2, none⟩ (.int .i64 t121))) := ⟨by repeat (first | (with_reducible first | exact HB.out | apply below_alloc | apply pw_below_drewN | apply below_drew1 | refine below_set ?_ GE111.out | refine below_set ?_ GE112.out | refine below_set ?_ GE125.out) | exact HB.out)⟩
            (try clear HO124)
            (try clear BK111)
            (try clear BK112)
            (try clear BK125)
            (try clear HB)
            generalize (((w21.setCell ⟨gb125, 0, none⟩ (.int .i64 t119)).setCell ⟨gb125, 1, none⟩ (.int .i64 t120)).setCell ⟨gb125, 2, none⟩ (.int .i64 t121)) = w25 at n0_ n1_ n2_ n3_ n4_ ⊢
            have HO124 := n0_
            have BK111 := n1_
            have BK112 := n2_
            have BK125 := n3_
            have HB := n4_
            clear n0_ n1_ n2_ n3_ n4_
            have n0_ := Aside0.mk (Kd.R_drew HO124.out)
            have n1_ := Aside0.mk (blk_drew BK111.out)
            have n2_ := Aside0.mk (blk_drew BK112.out)
            have n3_ := Aside0.mk (blk_drew BK125.out)
            have n4_ := Aside0.mk (below_drew1 HB.out)
            clear HO124
            clear BK111
            clear BK112
            clear BK125
            clear HB
            have HO124 := n0_
            have BK111 := n1_
            have BK112 := n2_
            have BK125 := n3_
            have HB := n4_
            clear n0_ n1_ n2_ n3_ n4_
            refine start_ (n := 6) (S := fun w' => w'.cell? ⟨gb125, 0, none⟩ = some (.int .i64 t119) ∧ w'.cell? ⟨gb125, 1, none⟩ = some (.int .i64 t120) ∧ w'.cell? ⟨gb125, 2, none⟩ = some (.int .i64 t121)) (ds := []) #[false, false, false, false, false, false] (by kernel_rfl) rfl rfl ⟨(blk_cell BK125.out 0).trans rfl, (blk_cell BK125.out 1).trans rfl, (blk_cell BK125.out 2).trans rfl⟩ (fun hHeld => ?_)
            generalize w25.drew = w26 at HO124 BK111 BK112 BK125 HB hHeld ⊢
            refine pure_ (i := 2) (N := some 28) (v := ?_) (a' := ?_) #[false, false, true, false, false, false] rfl rfl (by kernel_rfl) (fun _ _ _ h => h) (Or.inl ⟨by rfl, ?_⟩) ?_ ?_
            rotate_left
            · intro w'
              go_simp
              with_reducible rfl
            rotate_left
            · simp only [Act.put, List.setIfInBounds_toArray, List.set_cons_zero, List.set_cons_succ, i64_w, i32_w]
              rfl
            refine take_ (i := 0) (N := some 26) (v := ?_) (a' := ?_) #[true, false, true, false, false, false] rfl rfl (by kernel_rfl) (fun _ _ _ h => h) (Or.inl ⟨by rfl, ?_⟩) hHeld ?_ ?_
            rotate_left
            · rintro w' ⟨s0, s1, s2⟩
              go_simp
              with_reducible rfl
            rotate_left
            · simp only [Act.put, List.setIfInBounds_toArray, List.set_cons_zero, List.set_cons_succ, i64_w, i32_w]
              rfl
            refine one_ (i := 1) (N := some 27) #[true, true, true, false, false, false] rfl rfl (by kernel_rfl) (by decide) (fun K hK => ?_)
            refine Kd.R_lit_step (Kd.int .i32) _ 21 ?hg (N := 27) ?hd (xs := ([65533] : List Int)) (inner := [.int .i32 65533]) (ok := fun _ => True) (okp := fun _ => True) ?hr ?hp (fun _ hk => hk) trivial (Below.refl _ _) (Nat.le_refl _) (by simp) ?_; (case hd => rfl); (case hg => rfl); (case hr => first | (go_simp; done) | (go_simp; rfl)); (case hp => exact (Reps.one (show Kd.M (Kd.int .i32) _ _ _ 65533 [.int .i32 65533] from rfl) (Reps.none _ _)))
            intro v127 w27 ho28 hb hg_ hnew_
            clear hg_ hnew_
            (first | rw [← Ny126.out] at ho28 | (simp only [Int.reduceToNat] at ho28; rw [← Ny126.out] at ho28))
            have n0_ := Aside0.mk (Kd.R_elder' (by (with_reducible repeat (first | apply Kd.R_alloc | apply Kd.R_drewN | apply Kd.R_drew)); exact HO124.out) (Kd.R_base ho28) hb)
            have n1_ := Aside0.mk (Kd.R_lower (Kd.R_new' ho28 (Kd.R_lt (by (with_reducible repeat (first | apply Kd.R_alloc | apply Kd.R_drewN | apply Kd.R_drew)); exact HO124.out))) (below_size (by repeat (first | (with_reducible first | exact HB.out | apply below_alloc | apply pw_below_drewN | apply below_drew1 | refine below_set ?_ GE111.out | refine below_set ?_ GE112.out | refine below_set ?_ GE125.out) | exact HB.out))))
            have n2_ := Aside0.mk (blk_below (g := gb111) (o := .cells #[.int .i64 a0_0, .int .i64 a0_1, .int .i64 a0_2] 25 (0, 0)) (by (with_reducible repeat (first | refine blk_drewN ?_ _ | refine blk_drew ?_ | refine blk_alloc ?_ _)); exact BK111.out) hb)
            have n3_ := Aside0.mk (blk_below (g := gb112) (o := .cells #[.int .i64 0, .int .i64 0, .int .i64 0] 25 (0, 0)) (by (with_reducible repeat (first | refine blk_drewN ?_ _ | refine blk_drew ?_ | refine blk_alloc ?_ _)); exact BK112.out) hb)
            have n4_ := Aside0.mk (blk_below (g := gb125) (o := .cells #[.int .i64 t119, .int .i64 t120, .int .i64 t121] 25 (0, 0)) (by (with_reducible repeat (first | refine blk_drewN ?_ _ | refine blk_drew ?_ | refine blk_alloc ?_ _)); exact BK125.out) hb)
            have n5_ := Aside0.mk (below_step (by repeat (first | (with_reducible first | exact HB.out | apply below_alloc | apply pw_below_drewN | apply below_drew1 | refine below_set ?_ GE111.out | refine below_set ?_ GE112.out | refine below_set ?_ GE125.out) | exact HB.out)) hb)
            clear HO124
            clear BK111
            clear BK112
            clear BK125
            clear HB
            have HO124 := n0_
            have HO128 := n1_
            have BK111 := n2_
            have BK112 := n3_
            have BK125 := n4_
            have HB := n5_
            clear n0_ n1_ n2_ n3_ n4_ n5_
            clear hb ho28
            obtain ⟨Ao30, co30, eo30⟩ := Kd.R_slice HO124.out
            (first | subst eo30 | (injection eo30 with f1_ f2_ f3_; have f4_ := f1_.symm; have f5_ := f3_.symm; clear f1_ f2_ f3_; subst f4_; subst f5_))
            refine hK.out _ _ ⟨(blk_cell BK125.out 0).trans rfl, (blk_cell BK125.out 1).trans rfl, (blk_cell BK125.out 2).trans rfl⟩ (fun hHeld => ?_)
            clear hK K
            refine norm_ (a' := ?_) ?_ ?_
            rotate_left
            · show Act.put _ (some 27) _ = _
              simp only [Act.put, List.setIfInBounds_toArray, List.set_cons_zero, List.set_cons_succ, i64_w, i32_w]
              rfl
            refine one_ (i := 3) (N := some 29) #[true, true, true, true, false, false] rfl rfl (by kernel_rfl) (by decide) (fun K hK => ?_)
            refine Kd.R_append_rows_step (Kd.int .i32) (w0 := w) w.heap.size (by rfl) (.tmp 27) (.tmp 28) 26 21 (.int .i32 0) 4 rfl Try.underlying26 info21 rfl (by decide) (by omega) v127 y126 t122 _ _ _ (fun k_ => some k_ ≠ (.slice Ao30 t122.length co30 : Value).ownBlock) (fun _ => False) rfl rfl ?aO ?aR (fun _ _ h => h) (fun _ h => h.elim) ?aF ?aB ?aS ?aL ?_
            (case aR => repeat (first | exact (Kd.R_reads' HO124.out).2.2 | (with_reducible refine Kd.C_alloc ?_ _) | (with_reducible refine Kd.C_drewN ?_ _) | (with_reducible refine Kd.C_drew ?_)))
            (case aB => exact (by repeat (first | (with_reducible first | exact HB.out | apply below_alloc | apply pw_below_drewN | apply below_drew1 | refine below_set ?_ GE111.out | refine below_set ?_ GE112.out | refine below_set ?_ GE125.out) | exact HB.out)))
            (case aF => exact (fun k_ hk => Kd.fresh' (Kd.R_lt (by (with_reducible repeat (first | apply Kd.R_alloc | apply Kd.R_drewN | apply Kd.R_drew)); exact HO124.out)) k_ hk))
            (case aO => exact (by (with_reducible repeat (first | apply Kd.R_alloc | apply Kd.R_drewN | apply Kd.R_drew)); exact Kd.R_mono HO128.out (fun _ hk => hk.2)))
            (case aS => exact (below_size (by repeat (first | (with_reducible first | exact HB.out | apply below_alloc | apply pw_below_drewN | apply below_drew1 | refine below_set ?_ GE111.out | refine below_set ?_ GE112.out | refine below_set ?_ GE125.out) | exact HB.out))))
            (case aL => have := LMc19.out; omega)
            intro v130 w29 ho hb hg hat
            rw [← Ny129.out] at ho
            have n0_ := Aside0.mk (blk_grown (g := gb111) (o := .cells #[.int .i64 a0_0, .int .i64 a0_1, .int .i64 a0_2] 25 (0, 0)) (by (with_reducible repeat (first | refine blk_drewN ?_ _ | refine blk_drew ?_ | refine blk_alloc ?_ _)); exact BK111.out) hg (Kd.R_ne HO128.out BK111.out (by decide)))
            have n1_ := Aside0.mk (blk_grown (g := gb112) (o := .cells #[.int .i64 0, .int .i64 0, .int .i64 0] 25 (0, 0)) (by (with_reducible repeat (first | refine blk_drewN ?_ _ | refine blk_drew ?_ | refine blk_alloc ?_ _)); exact BK112.out) hg (Kd.R_ne HO128.out BK112.out (by decide)))
            have n2_ := Aside0.mk (Kd.R_after (ok := (fun _ => True)) (by (with_reducible repeat (first | apply Kd.R_alloc | apply Kd.R_drewN | apply Kd.R_drew)); exact HO124.out) hg hat)
            have n3_ := Aside0.mk (blk_grown (g := gb125) (o := .cells #[.int .i64 t119, .int .i64 t120, .int .i64 t121] 25 (0, 0)) (by (with_reducible repeat (first | refine blk_drewN ?_ _ | refine blk_drew ?_ | refine blk_alloc ?_ _)); exact BK125.out) hg (Kd.R_ne HO128.out BK125.out (by decide)))
            have n4_ := Aside0.mk (hb)
            have n5_ := Aside0.mk (ho)
            clear BK111
            clear BK112
            clear HO124
            clear BK125
            clear HB
            clear HO128
            have BK111 := n0_
            have BK112 := n1_
            have HO124 := n2_
            have BK125 := n3_
            have HB := n4_
            have HO131 := n5_
            clear n0_ n1_ n2_ n3_ n4_ n5_
            clear ho hb hg hat
            refine hK.out _ _ ⟨(blk_cell BK125.out 0).trans rfl, (blk_cell BK125.out 1).trans rfl, (blk_cell BK125.out 2).trans rfl⟩ (fun hHeld => ?_)
            clear hK K
            refine norm_ (a' := ?_) ?_ ?_
            rotate_left
            · show Act.put _ (some 29) _ = _
              simp only [Act.put, List.setIfInBounds_toArray, List.set_cons_zero, List.set_cons_succ, i64_w, i32_w]
              rfl
            refine one_ (i := 4) (N := none) #[true, true, true, true, true, false] rfl rfl (by kernel_rfl) (by decide) (fun K hK => ?_)
            have hs31 : w29.cell? ⟨gb112, 0, none⟩ = some (.int .i64 0) := (blk_cell BK112.out 0).trans rfl
            have hfs31 := blk_frozen BK112.out 0
            have hns31_0 := NB111_112.out
            have hns31_2 := NB125_112.out
            have hms31_0 := NB112_111.out
            have hms31_2 := NB112_125.out
            have hs32 : w29.cell? ⟨gb112, 1, none⟩ = some (.int .i64 0) := (blk_cell BK112.out 1).trans rfl
            have hfs32 := blk_frozen BK112.out 1
            have hns32_0 := NB111_112.out
            have hns32_2 := NB125_112.out
            have hms32_0 := NB112_111.out
            have hms32_2 := NB112_125.out
            have hs33 : w29.cell? ⟨gb112, 2, none⟩ = some (.int .i64 0) := (blk_cell BK112.out 2).trans rfl
            have hfs33 := blk_frozen BK112.out 2
            have hns33_0 := NB111_112.out
            have hns33_2 := NB125_112.out
            have hms33_0 := NB112_111.out
            have hms33_2 := NB112_125.out
            refine skip_ (w1 := ?_) (by rfl) rfl ?_ ?_
            rotate_left
            · go_simp
              rfl
            refine hK.out _ _ ⟨((cell_far (p := ⟨gb112, _, none⟩) NB125_112.out _).trans (((cell_far (p := ⟨gb112, _, none⟩) NB125_112.out _).trans (((cell_far (p := ⟨gb112, _, none⟩) NB125_112.out _).trans (hHeld.1)))))), ((cell_far (p := ⟨gb112, _, none⟩) NB125_112.out _).trans (((cell_far (p := ⟨gb112, _, none⟩) NB125_112.out _).trans (((cell_far (p := ⟨gb112, _, none⟩) NB125_112.out _).trans (hHeld.2.1)))))), ((cell_far (p := ⟨gb112, _, none⟩) NB125_112.out _).trans (((cell_far (p := ⟨gb112, _, none⟩) NB125_112.out _).trans (((cell_far (p := ⟨gb112, _, none⟩) NB125_112.out _).trans (hHeld.2.2))))))⟩ (fun hHeld => ?_)
            clear hK K
            refine pure_ (i := 5) (N := some 5) (v := ?_) (a' := ?_) #[true, true, true, true, true, true] rfl rfl (by kernel_rfl) (fun _ _ _ h => h) (Or.inl ⟨by rfl, ?_⟩) ?_ ?_
            rotate_left
            · intro w'
              go_simp
              with_reducible rfl
            rotate_left
            · simp only [Act.put, List.setIfInBounds_toArray, List.set_cons_zero, List.set_cons_succ, i64_w, i32_w]
              rfl
            refine done_ (by kernel_rfl) ?_
            try go_wp2
            refine bodyPost_ret (results_ct rfl _ _ gb112 25 #[.int .i64 t119, .int .i64 t120, .int .i64 t121] (0, 0) _ rfl (by (with_reducible repeat (first | refine blk_drewN ?_ _ | refine blk_drew ?_ | refine blk_alloc ?_ _)); refine blk_put (cs := #[.int .i64 t119, .int .i64 t120, .int .i64 0]) ?_ 2 _ rfl; (with_reducible repeat (first | refine blk_drewN ?_ _ | refine blk_drew ?_ | refine blk_alloc ?_ _)); refine blk_put (cs := #[.int .i64 t119, .int .i64 0, .int .i64 0]) ?_ 1 _ rfl; (with_reducible repeat (first | refine blk_drewN ?_ _ | refine blk_drew ?_ | refine blk_alloc ?_ _)); refine blk_put (cs := #[.int .i64 0, .int .i64 0, .int .i64 0]) ?_ 0 _ rfl; (with_reducible repeat (first | refine blk_drewN ?_ _ | refine blk_drew ?_ | refine blk_alloc ?_ _)); exact BK112.out) Try.underlying25 rfl (by kernel_rfl)) rfl ?_
            exact ⟨_, by first | rfl | (simp [errW_none, errW_some] <;> rfl) | (simp [*, errW_none, errW_some] <;> rfl), by (with_reducible repeat (first | apply Kd.R_alloc | apply Kd.R_drewN | apply Kd.R_drew)); exact Kd.R_mono (Kd.R_far (p := ⟨gb112, 2, none⟩) (Kd.R_far (p := ⟨gb112, 1, none⟩) (Kd.R_far (p := ⟨gb112, 0, none⟩) (Kd.R_types HO131.out BK112.out (by decide)) (fun _ hk => hk.2) (.int .i64 t119)) (fun _ hk => hk.2) (.int .i64 t120)) (fun _ hk => hk.2) (.int .i64 t121)) (fun _ hk => trivial), by repeat (first | (with_reducible first | exact HB.out | apply below_alloc | apply pw_below_drewN | apply below_drew1 | refine below_set ?_ GE111.out | refine below_set ?_ GE112.out | refine below_set ?_ GE125.out) | exact HB.out)⟩
          · rw [if_neg c19] at H
            exact absurd H (by simp)
        · replace c17 := Bool.eq_false_iff.mpr c17
          subst c17
          have H1 : (if (wrap64 (a0_0 - 1)) > 0 then (some (wrap64 (a0_0 - 1), a0_1, wrap64 ((wrap64 (64 * a0_2)) + (wrap64 (Go.bits .and .u8 a1 63))), ([] : List Int))) else (if (wrap64 ((wrap64 (64 * a0_2)) + (wrap64 (Go.bits .and .u8 a1 63)))) < a0_1 then (some (0, 0, 0, (([65533] : List Int)))) else ((utfd_no.f (wrap64 ((wrap64 (64 * a0_2)) + (wrap64 (Go.bits .and .u8 a1 63))))).bind fun t135 => (if t135 = true then (some (0, 0, 0, (([65533] : List Int)))) else (some (0, 0, 0, (([wrap32 (wrap64 ((wrap64 (64 * a0_2)) + (wrap64 (Go.bits .and .u8 a1 63))))] : List Int)))))))) = some (r1, r2, r3, r4) := by rw [if_neg (show ¬ (false = true) by decide)] at H; exact H
          clear H
          have H := H1
          clear H1
          by_cases c34 : (wrap64 (a0_0 - 1)) > 0
          · rw [if_pos c34] at H
            have c34b0 : decide (0 < (wrap64 (a0_0 - 1))) = true := decide_eq_true c34
            clear c34
            simp only [Option.some.injEq, Prod.mk.injEq] at H
            obtain ⟨rfl, rfl, rfl, rfl⟩ := H
            have hnb35 := NB111_112.out
            have hnc35 := NB112_111.out
            have hcz36_0 : wc.cell? ⟨gb111, 0, none⟩ = some (.int .i64 a0_0) := (blk_cell BK111.out 0).trans rfl
            have hcz36_1 : wc.cell? ⟨gb111, 1, none⟩ = some (.int .i64 a0_1) := (blk_cell BK111.out 1).trans rfl
            have hcz36_2 : wc.cell? ⟨gb111, 2, none⟩ = some (.int .i64 a0_2) := (blk_cell BK111.out 2).trans rfl
            have hfz36_0 := blk_frozen BK111.out 0
            have hfz36_1 := blk_frozen BK111.out 1
            have hfz36_2 := blk_frozen BK111.out 2
            have hcz37_0 : wc.cell? ⟨gb112, 0, none⟩ = some (.int .i64 0) := (blk_cell BK112.out 0).trans rfl
            have hcz37_1 : wc.cell? ⟨gb112, 1, none⟩ = some (.int .i64 0) := (blk_cell BK112.out 1).trans rfl
            have hcz37_2 : wc.cell? ⟨gb112, 2, none⟩ = some (.int .i64 0) := (blk_cell BK112.out 2).trans rfl
            have hfz37_0 := blk_frozen BK112.out 0
            have hfz37_1 := blk_frozen BK112.out 1
            have hfz37_2 := blk_frozen BK112.out 2
            go_wp2
            refine bodyPost_ret (results_ct rfl _ _ gb112 25 #[.int .i64 (wrap64 (a0_0 - 1)), .int .i64 a0_1, .int .i64 (wrap64 ((wrap64 (64 * a0_2)) + (wrap64 (Go.bits .and .u8 a1 63))))] (0, 0) _ rfl (by (with_reducible repeat (first | refine blk_drewN ?_ _ | refine blk_drew ?_ | refine blk_alloc ?_ _)); refine blk_put (cs := #[.int .i64 (wrap64 (a0_0 - 1)), .int .i64 a0_1, .int .i64 0]) ?_ 2 _ rfl; (with_reducible repeat (first | refine blk_drewN ?_ _ | refine blk_drew ?_ | refine blk_alloc ?_ _)); refine blk_put (cs := #[.int .i64 (wrap64 (a0_0 - 1)), .int .i64 0, .int .i64 0]) ?_ 1 _ rfl; (with_reducible repeat (first | refine blk_drewN ?_ _ | refine blk_drew ?_ | refine blk_alloc ?_ _)); refine blk_put (cs := #[.int .i64 0, .int .i64 0, .int .i64 0]) ?_ 0 _ rfl; (with_reducible repeat (first | refine blk_drewN ?_ _ | refine blk_drew ?_ | refine blk_alloc ?_ _)); refine blk_far ?_ NB112_111.out _; (with_reducible repeat (first | refine blk_drewN ?_ _ | refine blk_drew ?_ | refine blk_alloc ?_ _)); refine blk_far ?_ NB112_111.out _; (with_reducible repeat (first | refine blk_drewN ?_ _ | refine blk_drew ?_ | refine blk_alloc ?_ _)); exact BK112.out) Try.underlying25 rfl (by kernel_rfl)) rfl ?_
            exact ⟨_, by first | rfl | (simp [errW_none, errW_some] <;> rfl) | (simp [*, errW_none, errW_some] <;> rfl), by first | exact Kd.R_nil _ _ _ _ _ | exact Kd.N_nil _ _ _ _ _ | exact Kd.V_nil _ _ _ _ _ | exact Kd.Q_nil _ _ _ _ _ | exact Kd.S_nil _ _ _ _ _, by repeat (first | (with_reducible first | exact HB.out | apply below_alloc | apply pw_below_drewN | apply below_drew1 | refine below_set ?_ GE111.out | refine below_set ?_ GE112.out) | exact HB.out)⟩
          · rw [if_neg c34] at H
            have c34b0 : decide (0 < (wrap64 (a0_0 - 1))) = false := decide_eq_false c34
            clear c34
            by_cases c38 : (wrap64 ((wrap64 (64 * a0_2)) + (wrap64 (Go.bits .and .u8 a1 63)))) < a0_1
            · rw [if_pos c38] at H
              have c38b0 : decide ((wrap64 ((wrap64 (64 * a0_2)) + (wrap64 (Go.bits .and .u8 a1 63)))) < a0_1) = true := decide_eq_true c38
              clear c38
              obtain ⟨y132, hy132⟩ : ∃ y_ : List Int, y_ = (([65533] : List Int)) := ⟨_, rfl⟩
              replace H : (some (0, 0, 0, y132)) = some (r1, r2, r3, r4) := by first | (rw [hy132]; with_reducible exact H) | (have H2_ := (Option.bind_some _ _).symm.trans H; rw [hy132]; with_reducible exact H2_) | (have H2_ := (Option.bind_some _ _).symm.trans H; with_reducible exact H2_) | with_reducible exact H | (rw [hy132]; exact H) | exact H
              have Ny132 := Aside0.mk hy132
              clear hy132
              simp only [Option.some.injEq, Prod.mk.injEq] at H
              obtain ⟨rfl, rfl, rfl, rfl⟩ := H
              have hnb39 := NB111_112.out
              have hnc39 := NB112_111.out
              have hcz40_0 : wc.cell? ⟨gb111, 0, none⟩ = some (.int .i64 a0_0) := (blk_cell BK111.out 0).trans rfl
              have hcz40_1 : wc.cell? ⟨gb111, 1, none⟩ = some (.int .i64 a0_1) := (blk_cell BK111.out 1).trans rfl
              have hcz40_2 : wc.cell? ⟨gb111, 2, none⟩ = some (.int .i64 a0_2) := (blk_cell BK111.out 2).trans rfl
              have hfz40_0 := blk_frozen BK111.out 0
              have hfz40_1 := blk_frozen BK111.out 1
              have hfz40_2 := blk_frozen BK111.out 2
              go_wp2_with (first | ((with_reducible refine gate_dst (N := 57) rfl ?_); refine Kd.R_lit (Kd.int .i32) _ 21 ?hg (N := 57) ?hd (xs := ([65533] : List Int)) (inner := [.int .i32 65533]) (ok := fun _ => True) (okp := fun _ => True) ?hr ?hp (fun _ hk => hk) trivial (Below.refl _ _) (Nat.le_refl _) (by simp) ?_; (case hd => rfl); (case hg => rfl); (case hr => first | (go_simp; done) | (go_simp; rfl)); (case hp => exact (Reps.one (show Kd.M (Kd.int .i32) _ _ _ 65533 [.int .i32 65533] from rfl) (Reps.none _ _))); intro v133 w41 ho42 hb hg_ hnew_; clear hg_ hnew_; (first | rw [← Ny132.out] at ho42 | (simp only [Int.reduceToNat] at ho42; rw [← Ny132.out] at ho42)); have n0_ := Aside0.mk (Kd.R_lower ho42 (below_size (by repeat (first | (with_reducible first | exact HB.out | apply below_alloc | apply pw_below_drewN | apply below_drew1 | refine below_set ?_ GE111.out | refine below_set ?_ GE112.out) | exact HB.out)))); have n1_ := Aside0.mk (blk_below (g := gb111) (o := .cells #[.int .i64 (wrap64 (a0_0 - 1)), .int .i64 a0_1, .int .i64 (wrap64 ((wrap64 (64 * a0_2)) + (wrap64 (Go.bits .and .u8 a1 63))))] 25 (0, 0)) (by (with_reducible repeat (first | refine blk_drewN ?_ _ | refine blk_drew ?_ | refine blk_alloc ?_ _)); refine blk_put (cs := #[.int .i64 a0_0, .int .i64 a0_1, .int .i64 (wrap64 ((wrap64 (64 * a0_2)) + (wrap64 (Go.bits .and .u8 a1 63))))]) ?_ 0 _ rfl; (with_reducible repeat (first | refine blk_drewN ?_ _ | refine blk_drew ?_ | refine blk_alloc ?_ _)); refine blk_put (cs := #[.int .i64 a0_0, .int .i64 a0_1, .int .i64 a0_2]) ?_ 2 _ rfl; (with_reducible repeat (first | refine blk_drewN ?_ _ | refine blk_drew ?_ | refine blk_alloc ?_ _)); exact BK111.out) hb); have n2_ := Aside0.mk (blk_below (g := gb112) (o := .cells #[.int .i64 0, .int .i64 0, .int .i64 0] 25 (0, 0)) (by (with_reducible repeat (first | refine blk_drewN ?_ _ | refine blk_drew ?_ | refine blk_alloc ?_ _)); refine blk_far ?_ NB112_111.out _; (with_reducible repeat (first | refine blk_drewN ?_ _ | refine blk_drew ?_ | refine blk_alloc ?_ _)); refine blk_far ?_ NB112_111.out _; (with_reducible repeat (first | refine blk_drewN ?_ _ | refine blk_drew ?_ | refine blk_alloc ?_ _)); exact BK112.out) hb); have n3_ := Aside0.mk (below_step (by repeat (first | (with_reducible first | exact HB.out | apply below_alloc | apply pw_below_drewN | apply below_drew1 | refine below_set ?_ GE111.out | refine below_set ?_ GE112.out) | exact HB.out)) hb); clear BK111; clear BK112; clear HB; have HO134 := n0_; have BK111 := n1_; have BK112 := n2_; have HB := n3_; clear n0_ n1_ n2_ n3_; clear hb ho42; have hcz43_0 : w41.cell? ⟨gb112, 0, none⟩ = some (.int .i64 0) := (blk_cell BK112.out 0).trans rfl; have hcz43_1 : w41.cell? ⟨gb112, 1, none⟩ = some (.int .i64 0) := (blk_cell BK112.out 1).trans rfl; have hcz43_2 : w41.cell? ⟨gb112, 2, none⟩ = some (.int .i64 0) := (blk_cell BK112.out 2).trans rfl; have hfz43_0 := blk_frozen BK112.out 0; have hfz43_1 := blk_frozen BK112.out 1; have hfz43_2 := blk_frozen BK112.out 2))
              refine bodyPost_ret (results_ct rfl _ _ gb112 25 #[.int .i64 0, .int .i64 0, .int .i64 0] (0, 0) _ rfl (by (with_reducible repeat (first | refine blk_drewN ?_ _ | refine blk_drew ?_ | refine blk_alloc ?_ _)); refine blk_put (cs := #[.int .i64 0, .int .i64 0, .int .i64 0]) ?_ 2 _ rfl; (with_reducible repeat (first | refine blk_drewN ?_ _ | refine blk_drew ?_ | refine blk_alloc ?_ _)); refine blk_put (cs := #[.int .i64 0, .int .i64 0, .int .i64 0]) ?_ 1 _ rfl; (with_reducible repeat (first | refine blk_drewN ?_ _ | refine blk_drew ?_ | refine blk_alloc ?_ _)); refine blk_put (cs := #[.int .i64 0, .int .i64 0, .int .i64 0]) ?_ 0 _ rfl; (with_reducible repeat (first | refine blk_drewN ?_ _ | refine blk_drew ?_ | refine blk_alloc ?_ _)); exact BK112.out) Try.underlying25 rfl (by kernel_rfl)) rfl ?_
              exact ⟨_, by first | rfl | (simp [errW_none, errW_some] <;> rfl) | (simp [*, errW_none, errW_some] <;> rfl), by (with_reducible repeat (first | apply Kd.R_alloc | apply Kd.R_drewN | apply Kd.R_drew)); exact Kd.R_mono (Kd.R_far (p := ⟨gb112, 2, none⟩) (Kd.R_far (p := ⟨gb112, 1, none⟩) (Kd.R_far (p := ⟨gb112, 0, none⟩) (Kd.R_types HO134.out BK112.out (by decide)) (fun _ hk => hk.2) (.int .i64 0)) (fun _ hk => hk.2) (.int .i64 0)) (fun _ hk => hk.2) (.int .i64 0)) (fun _ hk => trivial), by repeat (first | (with_reducible first | exact HB.out | apply below_alloc | apply pw_below_drewN | apply below_drew1 | refine below_set ?_ GE111.out | refine below_set ?_ GE112.out) | exact HB.out)⟩
            · rw [if_neg c38] at H
              have c38b0 : decide ((wrap64 ((wrap64 (64 * a0_2)) + (wrap64 (Go.bits .and .u8 a1 63)))) < a0_1) = false := decide_eq_false c38
              clear c38
              replace H := Option.bind_eq_some_iff.mp H
              obtain ⟨t135, A440, H⟩ := H
              replace H : (if t135 = true then (some (0, 0, 0, (([65533] : List Int)))) else (some (0, 0, 0, (([wrap32 (wrap64 ((wrap64 (64 * a0_2)) + (wrap64 (Go.bits .and .u8 a1 63))))] : List Int))))) = some (r1, r2, r3, r4) := H
              have A44 := Aside0.mk A440
              clear A440
              by_cases c45 : t135 = true
              · subst c45
                have H1 : (some (0, 0, 0, (([65533] : List Int)))) = some (r1, r2, r3, r4) := by rw [if_pos rfl] at H; exact H
                clear H
                have H := H1
                clear H1
                obtain ⟨y136, hy136⟩ : ∃ y_ : List Int, y_ = (([65533] : List Int)) := ⟨_, rfl⟩
                replace H : (some (0, 0, 0, y136)) = some (r1, r2, r3, r4) := by first | (rw [hy136]; with_reducible exact H) | (have H2_ := (Option.bind_some _ _).symm.trans H; rw [hy136]; with_reducible exact H2_) | (have H2_ := (Option.bind_some _ _).symm.trans H; with_reducible exact H2_) | with_reducible exact H | (rw [hy136]; exact H) | exact H
                have Ny136 := Aside0.mk hy136
                clear hy136
                simp only [Option.some.injEq, Prod.mk.injEq] at H
                obtain ⟨rfl, rfl, rfl, rfl⟩ := H
                have hnb46 := NB111_112.out
                have hnc46 := NB112_111.out
                have hcz47_0 : wc.cell? ⟨gb111, 0, none⟩ = some (.int .i64 a0_0) := (blk_cell BK111.out 0).trans rfl
                have hcz47_1 : wc.cell? ⟨gb111, 1, none⟩ = some (.int .i64 a0_1) := (blk_cell BK111.out 1).trans rfl
                have hcz47_2 : wc.cell? ⟨gb111, 2, none⟩ = some (.int .i64 a0_2) := (blk_cell BK111.out 2).trans rfl
                have hfz47_0 := blk_frozen BK111.out 0
                have hfz47_1 := blk_frozen BK111.out 1
                have hfz47_2 := blk_frozen BK111.out 2
                go_wp2_with (first | (go_at_call 16; (with_reducible refine (utfd_no.calls (wrap64 ((wrap64 (64 * a0_2)) + (wrap64 (Go.bits .and .u8 a1 63)))) true _ A44.out).mono ?_); rintro e w' ⟨rfl, ⟨nd, rfl⟩⟩) | ((with_reducible refine gate_dst (N := 57) rfl ?_); refine Kd.R_lit (Kd.int .i32) _ 21 ?hg (N := 57) ?hd (xs := ([65533] : List Int)) (inner := [.int .i32 65533]) (ok := fun _ => True) (okp := fun _ => True) ?hr ?hp (fun _ hk => hk) trivial (Below.refl _ _) (Nat.le_refl _) (by simp) ?_; (case hd => rfl); (case hg => rfl); (case hr => first | (go_simp; done) | (go_simp; rfl)); (case hp => exact (Reps.one (show Kd.M (Kd.int .i32) _ _ _ 65533 [.int .i32 65533] from rfl) (Reps.none _ _))); intro v137 w48 ho49 hb hg_ hnew_; clear hg_ hnew_; (first | rw [← Ny136.out] at ho49 | (simp only [Int.reduceToNat] at ho49; rw [← Ny136.out] at ho49)); have n0_ := Aside0.mk (Kd.R_lower ho49 (below_size (by repeat (first | (with_reducible first | exact HB.out | apply below_alloc | apply pw_below_drewN | apply below_drew1 | refine below_set ?_ GE111.out | refine below_set ?_ GE112.out) | exact HB.out)))); have n1_ := Aside0.mk (blk_below (g := gb111) (o := .cells #[.int .i64 (wrap64 (a0_0 - 1)), .int .i64 a0_1, .int .i64 (wrap64 ((wrap64 (64 * a0_2)) + (wrap64 (Go.bits .and .u8 a1 63))))] 25 (0, 0)) (by (with_reducible repeat (first | refine blk_drewN ?_ _ | refine blk_drew ?_ | refine blk_alloc ?_ _)); refine blk_put (cs := #[.int .i64 a0_0, .int .i64 a0_1, .int .i64 (wrap64 ((wrap64 (64 * a0_2)) + (wrap64 (Go.bits .and .u8 a1 63))))]) ?_ 0 _ rfl; (with_reducible repeat (first | refine blk_drewN ?_ _ | refine blk_drew ?_ | refine blk_alloc ?_ _)); refine blk_put (cs := #[.int .i64 a0_0, .int .i64 a0_1, .int .i64 a0_2]) ?_ 2 _ rfl; (with_reducible repeat (first | refine blk_drewN ?_ _ | refine blk_drew ?_ | refine blk_alloc ?_ _)); exact BK111.out) hb); have n2_ := Aside0.mk (blk_below (g := gb112) (o := .cells #[.int .i64 0, .int .i64 0, .int .i64 0] 25 (0, 0)) (by (with_reducible repeat (first | refine blk_drewN ?_ _ | refine blk_drew ?_ | refine blk_alloc ?_ _)); refine blk_far ?_ NB112_111.out _; (with_reducible repeat (first | refine blk_drewN ?_ _ | refine blk_drew ?_ | refine blk_alloc ?_ _)); refine blk_far ?_ NB112_111.out _; (with_reducible repeat (first | refine blk_drewN ?_ _ | refine blk_drew ?_ | refine blk_alloc ?_ _)); exact BK112.out) hb); have n3_ := Aside0.mk (below_step (by repeat (first | (with_reducible first | exact HB.out | apply below_alloc | apply pw_below_drewN | apply below_drew1 | refine below_set ?_ GE111.out | refine below_set ?_ GE112.out) | exact HB.out)) hb); clear BK111; clear BK112; clear HB; have HO138 := n0_; have BK111 := n1_; have BK112 := n2_; have HB := n3_; clear n0_ n1_ n2_ n3_; clear hb ho49; have hcz50_0 : w48.cell? ⟨gb112, 0, none⟩ = some (.int .i64 0) := (blk_cell BK112.out 0).trans rfl; have hcz50_1 : w48.cell? ⟨gb112, 1, none⟩ = some (.int .i64 0) := (blk_cell BK112.out 1).trans rfl; have hcz50_2 : w48.cell? ⟨gb112, 2, none⟩ = some (.int .i64 0) := (blk_cell BK112.out 2).trans rfl; have hfz50_0 := blk_frozen BK112.out 0; have hfz50_1 := blk_frozen BK112.out 1; have hfz50_2 := blk_frozen BK112.out 2))
                refine bodyPost_ret (results_ct rfl _ _ gb112 25 #[.int .i64 0, .int .i64 0, .int .i64 0] (0, 0) _ rfl (by (with_reducible repeat (first | refine blk_drewN ?_ _ | refine blk_drew ?_ | refine blk_alloc ?_ _)); refine blk_put (cs := #[.int .i64 0, .int .i64 0, .int .i64 0]) ?_ 2 _ rfl; (with_reducible repeat (first | refine blk_drewN ?_ _ | refine blk_drew ?_ | refine blk_alloc ?_ _)); refine blk_put (cs := #[.int .i64 0, .int .i64 0, .int .i64 0]) ?_ 1 _ rfl; (with_reducible repeat (first | refine blk_drewN ?_ _ | refine blk_drew ?_ | refine blk_alloc ?_ _)); refine blk_put (cs := #[.int .i64 0, .int .i64 0, .int .i64 0]) ?_ 0 _ rfl; (with_reducible repeat (first | refine blk_drewN ?_ _ | refine blk_drew ?_ | refine blk_alloc ?_ _)); exact BK112.out) Try.underlying25 rfl (by kernel_rfl)) rfl ?_
                exact ⟨_, by first | rfl | (simp [errW_none, errW_some] <;> rfl) | (simp [*, errW_none, errW_some] <;> rfl), by (with_reducible repeat (first | apply Kd.R_alloc | apply Kd.R_drewN | apply Kd.R_drew)); exact Kd.R_mono (Kd.R_far (p := ⟨gb112, 2, none⟩) (Kd.R_far (p := ⟨gb112, 1, none⟩) (Kd.R_far (p := ⟨gb112, 0, none⟩) (Kd.R_types HO138.out BK112.out (by decide)) (fun _ hk => hk.2) (.int .i64 0)) (fun _ hk => hk.2) (.int .i64 0)) (fun _ hk => hk.2) (.int .i64 0)) (fun _ hk => trivial), by repeat (first | (with_reducible first | exact HB.out | apply below_alloc | apply pw_below_drewN | apply below_drew1 | refine below_set ?_ GE111.out | refine below_set ?_ GE112.out) | exact HB.out)⟩
              · replace c45 := Bool.eq_false_iff.mpr c45
                subst c45
                have H1 : (some (0, 0, 0, (([wrap32 (wrap64 ((wrap64 (64 * a0_2)) + (wrap64 (Go.bits .and .u8 a1 63))))] : List Int)))) = some (r1, r2, r3, r4) := by rw [if_neg (show ¬ (false = true) by decide)] at H; exact H
                clear H
                have H := H1
                clear H1
                obtain ⟨y139, hy139⟩ : ∃ y_ : List Int, y_ = (([wrap32 (wrap64 ((wrap64 (64 * a0_2)) + (wrap64 (Go.bits .and .u8 a1 63))))] : List Int)) := ⟨_, rfl⟩
                replace H : (some (0, 0, 0, y139)) = some (r1, r2, r3, r4) := by first | (rw [hy139]; with_reducible exact H) | (have H2_ := (Option.bind_some _ _).symm.trans H; rw [hy139]; with_reducible exact H2_) | (have H2_ := (Option.bind_some _ _).symm.trans H; with_reducible exact H2_) | with_reducible exact H | (rw [hy139]; exact H) | exact H
                have Ny139 := Aside0.mk hy139
                clear hy139
                simp only [Option.some.injEq, Prod.mk.injEq] at H
                obtain ⟨rfl, rfl, rfl, rfl⟩ := H
                have hnb51 := NB111_112.out
                have hnc51 := NB112_111.out
                have hcz52_0 : wc.cell? ⟨gb111, 0, none⟩ = some (.int .i64 a0_0) := (blk_cell BK111.out 0).trans rfl
                have hcz52_1 : wc.cell? ⟨gb111, 1, none⟩ = some (.int .i64 a0_1) := (blk_cell BK111.out 1).trans rfl
                have hcz52_2 : wc.cell? ⟨gb111, 2, none⟩ = some (.int .i64 a0_2) := (blk_cell BK111.out 2).trans rfl
                have hfz52_0 := blk_frozen BK111.out 0
                have hfz52_1 := blk_frozen BK111.out 1
                have hfz52_2 := blk_frozen BK111.out 2
                try go_wp2_with (first | (go_at_call 16; (with_reducible refine (utfd_no.calls (wrap64 ((wrap64 (64 * a0_2)) + (wrap64 (Go.bits .and .u8 a1 63)))) false _ A44.out).mono ?_); rintro e w' ⟨rfl, ⟨nd, rfl⟩⟩))
                have n0_ : Aside0 (((wc.setCell ⟨gb111, 2, none⟩ (.int .i64 (wrap64 ((wrap64 (64 * a0_2)) + (wrap64 (Go.bits .and .u8 a1 63)))))).setCell ⟨gb111, 0, none⟩ (.int .i64 (wrap64 (a0_0 - 1)))).heap[gb111]? = some (.cells #[.int .i64 (wrap64 (a0_0 - 1)), .int .i64 a0_1, .int .i64 (wrap64 ((wrap64 (64 * a0_2)) + (wrap64 (Go.bits .and .u8 a1 63))))] 25 (0, 0))) := ⟨by (with_reducible repeat (first | refine blk_drewN ?_ _ | refine blk_drew ?_ | refine blk_alloc ?_ _)); refine blk_put (cs := #[.int .i64 a0_0, .int .i64 a0_1, .int .i64 (wrap64 ((wrap64 (64 * a0_2)) + (wrap64 (Go.bits .and .u8 a1 63))))]) ?_ 0 _ rfl; (with_reducible repeat (first | refine blk_drewN ?_ _ | refine blk_drew ?_ | refine blk_alloc ?_ _)); refine blk_put (cs := #[.int .i64 a0_0, .int .i64 a0_1, .int .i64 a0_2]) ?_ 2 _ rfl; (with_reducible repeat (first | refine blk_drewN ?_ _ | refine blk_drew ?_ | refine blk_alloc ?_ _)); exact BK111.out⟩
                have n1_ : Aside0 (((wc.setCell ⟨gb111, 2, none⟩ (.int .i64 (wrap64 ((wrap64 (64 * a0_2)) + (wrap64 (Go.bits .and .u8 a1 63)))))).setCell ⟨gb111, 0, none⟩ (.int .i64 (wrap64 (a0_0 - 1)))).heap[gb112]? = some (.cells #[.int .i64 0, .int .i64 0, .int .i64 0] 25 (0, 0))) := ⟨by (with_reducible repeat (first | refine blk_drewN ?_ _ | refine blk_drew ?_ | refine blk_alloc ?_ _)); refine blk_far ?_ NB112_111.out _; (with_reducible repeat (first | refine blk_drewN ?_ _ | refine blk_drew ?_ | refine blk_alloc ?_ _)); refine blk_far ?_ NB112_111.out _; (with_reducible repeat (first | refine blk_drewN ?_ _ | refine blk_drew ?_ | refine blk_alloc ?_ _)); exact BK112.out⟩
                have n2_ : Aside0 (Below w.heap.size w ((wc.setCell ⟨gb111, 2, none⟩ (.int .i64 (wrap64 ((wrap64 (64 * a0_2)) + (wrap64 (Go.bits .and .u8 a1 63)))))).setCell ⟨gb111, 0, none⟩ (.int .i64 (wrap64 (a0_0 - 1))))) := ⟨by repeat (first | (with_reducible first | exact HB.out | apply below_alloc | apply pw_below_drewN | apply below_drew1 | refine below_set ?_ GE111.out | refine below_set ?_ GE112.out) | exact HB.out)⟩
                (try clear BK111)
                (try clear BK112)
                (try clear HB)
                generalize ((wc.setCell ⟨gb111, 2, none⟩ (.int .i64 (wrap64 ((wrap64 (64 * a0_2)) + (wrap64 (Go.bits .and .u8 a1 63)))))).setCell ⟨gb111, 0, none⟩ (.int .i64 (wrap64 (a0_0 - 1)))) = w53 at n0_ n1_ n2_ ⊢
                have BK111 := n0_
                have BK112 := n1_
                have HB := n2_
                clear n0_ n1_ n2_
                (try (rw [drewN_self w53]; generalize hq_ : World.drewN w53 _ = w53; have n0_ : Aside0 (w53.heap[gb111]? = some (.cells #[.int .i64 (wrap64 (a0_0 - 1)), .int .i64 a0_1, .int .i64 (wrap64 ((wrap64 (64 * a0_2)) + (wrap64 (Go.bits .and .u8 a1 63))))] 25 (0, 0))) := ⟨by rw [← hq_]; exact (by (with_reducible repeat (first | refine blk_drewN ?_ _ | refine blk_drew ?_ | refine blk_alloc ?_ _)); exact BK111.out)⟩; have n1_ : Aside0 (w53.heap[gb112]? = some (.cells #[.int .i64 0, .int .i64 0, .int .i64 0] 25 (0, 0))) := ⟨by rw [← hq_]; exact (by (with_reducible repeat (first | refine blk_drewN ?_ _ | refine blk_drew ?_ | refine blk_alloc ?_ _)); exact BK112.out)⟩; have n2_ : Aside0 (Below w.heap.size w w53) := ⟨by rw [← hq_]; exact (by repeat (first | (with_reducible first | exact HB.out | apply below_alloc | apply pw_below_drewN | apply below_drew1 | refine below_set ?_ GE111.out | refine below_set ?_ GE112.out) | exact HB.out))⟩; clear BK111 BK112 HB hq_; have BK111 := n0_; have BK112 := n1_; have HB := n2_; clear n0_ n1_ n2_))
                have n0_ := Aside0.mk (blk_drew BK111.out)
                have n1_ := Aside0.mk (blk_drew BK112.out)
                have n2_ := Aside0.mk (below_drew1 HB.out)
                clear BK111
                clear BK112
                clear HB
                have BK111 := n0_
                have BK112 := n1_
                have HB := n2_
                clear n0_ n1_ n2_
                refine start_ (n := 7) (S := fun w' => True) (ds := []) #[false, false, false, false, false, false, false] (by kernel_rfl) rfl rfl trivial (fun hHeld => ?_); refine with_tabW utfd_Step.tab11 utfd_Step.bits11 (fun HT_ HW_ => ?_)
                generalize w53.drew = w54 at BK111 BK112 HB hHeld ⊢
                refine pure_ (i := 1) (N := some 59) (v := ?_) (a' := ?_) #[false, true, false, false, false, false, false] rfl rfl (any_of HT_.out (by kernel_rfl)) (fun _ _ _ h => h) (Or.inl ⟨by rfl, ?_⟩) ?_ ?_
                rotate_left
                · intro w'
                  go_simp
                  with_reducible rfl
                rotate_left
                · simp only [Act.put, List.setIfInBounds_toArray, List.set_cons_zero, List.set_cons_succ, i64_w, i32_w]
                  rfl
                refine inv_at [0, 2, 3, 4, 5, 6] (fun a0_ b a w' => ∃ (v140 : Value) (m6_ : Value), a = putSel a0_ b [(0, 58, .agg #[.int .i64 0, .int .i64 0, .int .i64 0]), (2, 60, .int .i64 (wrap64 ((wrap64 (64 * a0_2)) + (wrap64 (Go.bits .and .u8 a1 63))))), (3, 61, .int .i32 (wrap32 (wrap64 ((wrap64 (64 * a0_2)) + (wrap64 (Go.bits .and .u8 a1 63)))))), (4, 62, v140), (6, 5, m6_)] ∧ (w'.heap[gb111]? = some (.cells #[.int .i64 (wrap64 (a0_0 - 1)), .int .i64 a0_1, .int .i64 (wrap64 ((wrap64 (64 * a0_2)) + (wrap64 (Go.bits .and .u8 a1 63))))] 25 (0, 0))) ∧ (w'.heap[gb112]? = some (.cells #[.int .i64 0, .int .i64 0, .int .i64 0] 25 (0, 0))) ∧ (Below w.heap.size w w') ∧ (b 4 = true → Kd.R (Kd.int .i32) 21 w' w.heap.size (fun _ => True) v140 y139) ∧ (b 6 = true → (m6_ : Value) = v140)) HT_.out HW_.out (by kernel_rfl) (by kernel_rfl) ?_ ?_ ?_
                · exact ⟨.bool false, .bool false, by simp only [putSel, Bool.false_eq_true, if_false], BK111.out, BK112.out, HB.out, fun h_ => absurd h_ (by decide), fun h_ => absurd h_ (by decide)⟩
                · skip
                  clear BK111 BK112 HB
                  refine steps_cons ?_ ?_
                  · rintro b a w' ⟨v140, m6_, ha, Q_BK111, Q_BK112, Q_HB, Q_HO141, Q_X6_⟩ hb_ hon hoff
                    refine ⟨_, rfl, fun K hK => ?_⟩
                    replace ha := Aside0.mk ha
                    have BK111 := Aside0.mk Q_BK111
                    have BK112 := Aside0.mk Q_BK112
                    have HB := Aside0.mk Q_HB
                    refine value_ (w1 := w') (v := .agg #[.int .i64 0, .int .i64 0, .int .i64 0]) (by rfl) rfl ?_ ?_
                    · go_simp
                      (try simp only [i64_w, i32_w])
                      try rfl
                    refine hK.out _ _ ⟨v140, m6_, (by rw [ha.out]; exact putSel_upk 0 hb_ rfl rfl rfl), Q_BK111, Q_BK112, Q_HB, Q_HO141, fun h0_ => absurd ((hoff 6 (by kernel_rfl)).symm.trans h0_) (by decide)⟩
                  refine steps_cons ?_ ?_
                  · rintro b a w' ⟨v140, m6_, ha, Q_BK111, Q_BK112, Q_HB, Q_HO141, Q_X6_⟩ hb_ hon hoff
                    refine ⟨_, rfl, fun K hK => ?_⟩
                    have e59 : a.tmps[59]? = some (.pointer (some ⟨gb111, 2, none⟩)) := by rw [ha]; exact (putSel_off rfl).trans rfl
                    replace ha := Aside0.mk ha
                    have BK111 := Aside0.mk Q_BK111
                    have BK112 := Aside0.mk Q_BK112
                    have HB := Aside0.mk Q_HB
                    have hc0_ : w'.cell? ⟨gb111, 0, none⟩ = some (.int .i64 (wrap64 (a0_0 - 1))) := (blk_cell BK111.out 0).trans rfl
                    have hc1_ : w'.cell? ⟨gb111, 1, none⟩ = some (.int .i64 a0_1) := (blk_cell BK111.out 1).trans rfl
                    have hc2_ : w'.cell? ⟨gb111, 2, none⟩ = some (.int .i64 (wrap64 ((wrap64 (64 * a0_2)) + (wrap64 (Go.bits .and .u8 a1 63))))) := (blk_cell BK111.out 2).trans rfl
                    refine value_ (w1 := w') (v := .int .i64 (wrap64 ((wrap64 (64 * a0_2)) + (wrap64 (Go.bits .and .u8 a1 63))))) (by rfl) rfl ?_ ?_
                    · go_simp
                      (try simp only [i64_w, i32_w])
                      try rfl
                    refine hK.out _ _ ⟨v140, m6_, (by rw [ha.out]; exact putSel_upk 1 hb_ rfl rfl rfl), Q_BK111, Q_BK112, Q_HB, fun h0_ => absurd ((hoff 4 (by kernel_rfl)).symm.trans h0_) (by decide), fun h0_ => absurd ((hoff 6 (by kernel_rfl)).symm.trans h0_) (by decide)⟩
                  refine steps_cons ?_ ?_
                  · rintro b a w' ⟨v140, m6_, ha, Q_BK111, Q_BK112, Q_HB, Q_HO141, Q_X6_⟩ hb_ hon hoff
                    refine ⟨_, rfl, fun K hK => ?_⟩
                    have e60 : a.tmps[60]? = some (.int .i64 (wrap64 ((wrap64 (64 * a0_2)) + (wrap64 (Go.bits .and .u8 a1 63))))) := by rw [ha]; exact putSel_on (e := (2, 60, .int .i64 (wrap64 ((wrap64 (64 * a0_2)) + (wrap64 (Go.bits .and .u8 a1 63)))))) 1 rfl rfl (hon 2 (by kernel_rfl)) rfl
                    replace ha := Aside0.mk ha
                    have BK111 := Aside0.mk Q_BK111
                    have BK112 := Aside0.mk Q_BK112
                    have HB := Aside0.mk Q_HB
                    refine value_ (w1 := w') (v := .int .i32 (wrap32 (wrap64 ((wrap64 (64 * a0_2)) + (wrap64 (Go.bits .and .u8 a1 63)))))) (by rfl) rfl ?_ ?_
                    · go_simp
                      (try simp only [i64_w, i32_w])
                      try rfl
                    refine hK.out _ _ ⟨v140, m6_, (by rw [ha.out]; exact putSel_upk 2 hb_ rfl rfl rfl), Q_BK111, Q_BK112, Q_HB, fun h0_ => absurd ((hoff 4 (by kernel_rfl)).symm.trans h0_) (by decide), fun h0_ => absurd ((hoff 6 (by kernel_rfl)).symm.trans h0_) (by decide)⟩
                  refine steps_cons ?_ ?_
                  · rintro b a w' ⟨v140, m6_, ha, Q_BK111, Q_BK112, Q_HB, Q_HO141, Q_X6_⟩ hb_ hon hoff
                    refine ⟨_, rfl, fun K hK => ?_⟩
                    have e61 : a.tmps[61]? = some (.int .i32 (wrap32 (wrap64 ((wrap64 (64 * a0_2)) + (wrap64 (Go.bits .and .u8 a1 63)))))) := by rw [ha]; exact putSel_on (e := (3, 61, .int .i32 (wrap32 (wrap64 ((wrap64 (64 * a0_2)) + (wrap64 (Go.bits .and .u8 a1 63))))))) 2 rfl rfl (hon 3 (by kernel_rfl)) rfl
                    replace ha := Aside0.mk ha
                    have BK111 := Aside0.mk Q_BK111
                    have BK112 := Aside0.mk Q_BK112
                    have HB := Aside0.mk Q_HB
                    refine Kd.R_lit_step (Kd.int .i32) _ 21 ?hg (N := 62) ?hd (xs := ([wrap32 (wrap64 ((wrap64 (64 * a0_2)) + (wrap64 (Go.bits .and .u8 a1 63))))] : List Int)) (inner := [.int .i32 (wrap32 (wrap64 ((wrap64 (64 * a0_2)) + (wrap64 (Go.bits .and .u8 a1 63)))))]) (ok := fun _ => True) (okp := fun _ => True) ?hr ?hp (fun _ hk => hk) trivial (Below.refl _ _) (Nat.le_refl _) (by simp) ?_; (case hd => rfl); (case hg => rfl); (case hr => first | (go_simp; done) | (go_simp; rfl)); (case hp => exact (Reps.one (show Kd.M (Kd.int .i32) _ _ _ (wrap32 (wrap64 ((wrap64 (64 * a0_2)) + (wrap64 (Go.bits .and .u8 a1 63))))) [.int .i32 (wrap32 (wrap64 ((wrap64 (64 * a0_2)) + (wrap64 (Go.bits .and .u8 a1 63)))))] from rfl) (Reps.none _ _)))
                    intro v140 w55 ho56 hb hg_ hnew_
                    clear hg_ hnew_
                    (first | rw [← Ny139.out] at ho56 | (simp only [Int.reduceToNat] at ho56; rw [← Ny139.out] at ho56))
                    have n0_ := Aside0.mk (Kd.R_lower ho56 (below_size (by repeat (first | (with_reducible first | exact HB.out | apply below_alloc | apply pw_below_drewN | apply below_drew1 | refine below_set ?_ GE111.out | refine below_set ?_ GE112.out) | exact HB.out))))
                    have n1_ := Aside0.mk (blk_below (g := gb111) (o := .cells #[.int .i64 (wrap64 (a0_0 - 1)), .int .i64 a0_1, .int .i64 (wrap64 ((wrap64 (64 * a0_2)) + (wrap64 (Go.bits .and .u8 a1 63))))] 25 (0, 0)) (by (with_reducible repeat (first | refine blk_drewN ?_ _ | refine blk_drew ?_ | refine blk_alloc ?_ _)); exact BK111.out) hb)
                    have n2_ := Aside0.mk (blk_below (g := gb112) (o := .cells #[.int .i64 0, .int .i64 0, .int .i64 0] 25 (0, 0)) (by (with_reducible repeat (first | refine blk_drewN ?_ _ | refine blk_drew ?_ | refine blk_alloc ?_ _)); exact BK112.out) hb)
                    have n3_ := Aside0.mk (below_step (by repeat (first | (with_reducible first | exact HB.out | apply below_alloc | apply pw_below_drewN | apply below_drew1 | refine below_set ?_ GE111.out | refine below_set ?_ GE112.out) | exact HB.out)) hb)
                    clear BK111
                    clear BK112
                    clear HB
                    have HO141 := n0_
                    have BK111 := n1_
                    have BK112 := n2_
                    have HB := n3_
                    clear n0_ n1_ n2_ n3_
                    clear hb ho56
                    refine hK.out _ _ ⟨v140, m6_, (by rw [ha.out]; exact putSel_upk 3 hb_ rfl rfl rfl), (by (with_reducible repeat (first | refine blk_drewN ?_ _ | refine blk_drew ?_ | refine blk_alloc ?_ _)); exact BK111.out), (by (with_reducible repeat (first | refine blk_drewN ?_ _ | refine blk_drew ?_ | refine blk_alloc ?_ _)); exact BK112.out), (by repeat (first | (with_reducible first | exact HB.out | apply below_alloc | apply pw_below_drewN | apply below_drew1 | refine below_set ?_ GE111.out | refine below_set ?_ GE112.out) | exact HB.out)), fun _ => (by (with_reducible repeat (first | apply Kd.R_alloc | apply Kd.R_drewN | apply Kd.R_drew)); exact HO141.out), fun h0_ => absurd ((hoff 6 (by kernel_rfl)).symm.trans h0_) (by decide)⟩
                  refine steps_cons ?_ ?_
                  · rintro b a w' ⟨v140, m6_, ha, Q_BK111, Q_BK112, Q_HB, Q_HO141, Q_X6_⟩ hb_ hon hoff
                    refine ⟨_, rfl, fun K hK => ?_⟩
                    have e4 : a.tmps[4]? = some (.pointer (some ⟨gb112, 0, none⟩)) := by rw [ha]; exact (putSel_off rfl).trans rfl
                    have e58 : a.tmps[58]? = some (.agg #[.int .i64 0, .int .i64 0, .int .i64 0]) := by rw [ha]; exact putSel_on (e := (0, 58, .agg #[.int .i64 0, .int .i64 0, .int .i64 0])) 0 rfl rfl (hon 0 (by kernel_rfl)) rfl
                    replace ha := Aside0.mk ha
                    have BK111 := Aside0.mk Q_BK111
                    have BK112 := Aside0.mk Q_BK112
                    have HB := Aside0.mk Q_HB
                    have hs55 : w'.cell? ⟨gb112, 0, none⟩ = some (.int .i64 0) := (blk_cell BK112.out 0).trans rfl
                    have hfs55 := blk_frozen BK112.out 0
                    have hns55_0 := NB111_112.out
                    have hms55_0 := NB112_111.out
                    have hs56 : w'.cell? ⟨gb112, 1, none⟩ = some (.int .i64 0) := (blk_cell BK112.out 1).trans rfl
                    have hfs56 := blk_frozen BK112.out 1
                    have hns56_0 := NB111_112.out
                    have hms56_0 := NB112_111.out
                    have hs57 : w'.cell? ⟨gb112, 2, none⟩ = some (.int .i64 0) := (blk_cell BK112.out 2).trans rfl
                    have hfs57 := blk_frozen BK112.out 2
                    have hns57_0 := NB111_112.out
                    have hms57_0 := NB112_111.out
                    refine skip_ (w1 := ?_) (by rfl) rfl ?_ ?_
                    rotate_left
                    · go_simp
                      rfl
                    refine hK.out _ _ ⟨v140, m6_, (by rw [ha.out]; exact putSel_none (v := undef) rfl), (by (with_reducible repeat (first | refine blk_drewN ?_ _ | refine blk_drew ?_ | refine blk_alloc ?_ _)); refine blk_far ?_ NB111_112.out _; (with_reducible repeat (first | refine blk_drewN ?_ _ | refine blk_drew ?_ | refine blk_alloc ?_ _)); refine blk_far ?_ NB111_112.out _; (with_reducible repeat (first | refine blk_drewN ?_ _ | refine blk_drew ?_ | refine blk_alloc ?_ _)); refine blk_far ?_ NB111_112.out _; (with_reducible repeat (first | refine blk_drewN ?_ _ | refine blk_drew ?_ | refine blk_alloc ?_ _)); exact BK111.out), (by (with_reducible repeat (first | refine blk_drewN ?_ _ | refine blk_drew ?_ | refine blk_alloc ?_ _)); refine blk_put (cs := #[.int .i64 0, .int .i64 0, .int .i64 0]) ?_ 2 _ rfl; (with_reducible repeat (first | refine blk_drewN ?_ _ | refine blk_drew ?_ | refine blk_alloc ?_ _)); refine blk_put (cs := #[.int .i64 0, .int .i64 0, .int .i64 0]) ?_ 1 _ rfl; (with_reducible repeat (first | refine blk_drewN ?_ _ | refine blk_drew ?_ | refine blk_alloc ?_ _)); refine blk_put (cs := #[.int .i64 0, .int .i64 0, .int .i64 0]) ?_ 0 _ rfl; (with_reducible repeat (first | refine blk_drewN ?_ _ | refine blk_drew ?_ | refine blk_alloc ?_ _)); exact BK112.out), (by repeat (first | (with_reducible first | exact HB.out | apply below_alloc | apply pw_below_drewN | apply below_drew1 | refine below_set ?_ GE111.out | refine below_set ?_ GE112.out) | exact HB.out)), fun h0_ => (by (with_reducible repeat (first | apply Kd.R_alloc | apply Kd.R_drewN | apply Kd.R_drew)); exact Kd.R_mono (Kd.R_far (p := ⟨gb112, 2, none⟩) (Kd.R_far (p := ⟨gb112, 1, none⟩) (Kd.R_far (p := ⟨gb112, 0, none⟩) (Kd.R_types (Q_HO141 h0_) BK112.out (by decide)) (fun _ hk => hk.2) (.int .i64 0)) (fun _ hk => hk.2) (.int .i64 0)) (fun _ hk => hk.2) (.int .i64 0)) (fun _ hk => trivial)), fun h0_ => absurd ((hoff 6 (by kernel_rfl)).symm.trans h0_) (by decide)⟩
                  refine steps_cons ?_ ?_
                  · rintro b a w' ⟨v140, m6_, ha, Q_BK111, Q_BK112, Q_HB, Q_HO141, Q_X6_⟩ hb_ hon hoff
                    refine ⟨_, rfl, fun K hK => ?_⟩
                    have e62 : a.tmps[62]? = some (v140) := by rw [ha]; exact putSel_on (e := (4, 62, v140)) 3 rfl rfl (hon 4 (by kernel_rfl)) rfl
                    replace ha := Aside0.mk ha
                    have BK111 := Aside0.mk Q_BK111
                    have BK112 := Aside0.mk Q_BK112
                    have HB := Aside0.mk Q_HB
                    have HO141 := Aside0.mk (Q_HO141 (hon 4 (by kernel_rfl)))
                    refine value_ (w1 := w') (v := v140) (by rfl) rfl ?_ ?_
                    · go_simp
                      (try simp only [i64_w, i32_w])
                      try rfl
                    refine hK.out _ _ ⟨v140, (v140), (by rw [ha.out]; exact putSel_upk 4 hb_ rfl rfl rfl), Q_BK111, Q_BK112, Q_HB, Q_HO141, fun _ => rfl⟩
                  exact steps_nil
                rintro b a w60 hall ⟨v140, m6_, ha, Q_BK111, Q_BK112, Q_HB, Q_HO141, Q_X6_⟩
                clear BK111 BK112 HB
                have hb0_ := hall 0 (by kernel_rfl)
                have hb2_ := hall 2 (by kernel_rfl)
                have hb3_ := hall 3 (by kernel_rfl)
                have hb4_ := hall 4 (by kernel_rfl)
                have hb5_ := hall 5 (by kernel_rfl)
                have hb6_ := hall 6 (by kernel_rfl)
                subst ha
                obtain rfl := Q_X6_ hb6_
                simp only [putSel, hb0_, hb2_, hb3_, hb4_, hb5_, hb6_, if_true, Act.put, List.setIfInBounds_toArray, List.set_cons_zero, List.set_cons_succ]
                have BK111 := Aside0.mk Q_BK111
                clear Q_BK111
                have BK112 := Aside0.mk Q_BK112
                clear Q_BK112
                have HB := Aside0.mk Q_HB
                clear Q_HB
                have HO141 := Aside0.mk (Q_HO141 hb4_)
                clear Q_HO141
                clear hall hb0_ hb2_ hb3_ hb4_ hb5_ hb6_
                try go_wp2
                refine bodyPost_ret (results_ct rfl _ _ gb112 25 #[.int .i64 0, .int .i64 0, .int .i64 0] (0, 0) _ rfl (by (with_reducible repeat (first | refine blk_drewN ?_ _ | refine blk_drew ?_ | refine blk_alloc ?_ _)); exact BK112.out) Try.underlying25 rfl (by kernel_rfl)) rfl ?_
                exact ⟨_, by first | rfl | (simp [errW_none, errW_some] <;> rfl) | (simp [*, errW_none, errW_some] <;> rfl), by (with_reducible repeat (first | apply Kd.R_alloc | apply Kd.R_drewN | apply Kd.R_drew)); exact HO141.out, by repeat (first | (with_reducible first | exact HB.out | apply below_alloc | apply pw_below_drewN | apply below_drew1 | refine below_set ?_ GE111.out | refine below_set ?_ GE112.out) | exact HB.out)⟩

/-! ### utfd_End: function 8 -/
def utfd_End.f (a0_0 : Int) (a0_1 : Int) (a0_2 : Int) : Option (List Int) := if a0_0 ≤ 0 then (some ([] : List Int)) else (some (([65533] : List Int)))
set_option maxHeartbeats 8000000 in
set_option maxRecDepth 100000 in
theorem utfd_End.calls (a0_0 : Int) (a0_1 : Int) (a0_2 : Int) (r : List Int) (w : World) (h : utfd_End.f a0_0 a0_1 a0_2 = some r) :
    Calls Try.prog 8 #[.agg #[.int .i64 a0_0, .int .i64 a0_1, .int .i64 a0_2]] w fun e w' => ∃ v0_ : Value, e = .returned (v0_) ∧ Kd.R (Kd.int .i32) 21 w' w.heap.size (fun _ => True) v0_ r ∧ Below w.heap.size w w' := by
  have hu25 := Try.underlying25
  have HB := Aside0.mk (Below.refl w.heap.size w)
  have H : (if a0_0 ≤ 0 then (some ([] : List Int)) else (some (([65533] : List Int)))) = some r := h
  clear h
  by_cases c2 : a0_0 ≤ 0
  · rw [if_pos c2] at H
    have c2b0 : decide (a0_0 ≤ 0) = true := decide_eq_true c2
    clear c2
    obtain rfl := Option.some.inj H
    go_enter Try.func8, Try.ntmps8
    go_wp2_with (first | ((with_reducible refine gate_dst (N := 1) rfl ?_); refine box_event ?hg (N := 1) ?hd (cs := #[.int .i64 a0_0, .int .i64 a0_1, .int .i64 a0_2]) (t := 25) ?hr ?_; (case hd => rfl); (case hg => rfl); (case hr => first | (go_simp; done) | (go_simp; rfl)); intro gb142 hg w3 hbox hb; have n0_ := Aside0.mk (below_step (by repeat (first | (with_reducible first | exact HB.out | apply below_alloc | apply pw_below_drewN | apply below_drew1) | exact HB.out)) hb); have n1_ := Aside0.mk (hbox); have n2_ := Aside0.mk ((by rw [hg]; exact (below_size (by repeat (first | (with_reducible first | exact HB.out | apply below_alloc | apply pw_below_drewN | apply below_drew1) | exact HB.out))) : w.heap.size ≤ gb142)); have n3_ := Aside0.mk ((by rw [hg]; exact (below_size (by repeat (first | (with_reducible first | exact HB.out | apply below_alloc | apply pw_below_drewN | apply below_drew1) | exact HB.out))) : w.heap.size ≤ gb142)); clear HB; have HB := n0_; have BK142 := n1_; have GW142 := n2_; have GE142 := n3_; clear n0_ n1_ n2_ n3_; clear hb hbox hg; have hcz4_0 : w3.cell? ⟨gb142, 0, none⟩ = some (.int .i64 a0_0) := (blk_cell BK142.out 0).trans rfl; have hcz4_1 : w3.cell? ⟨gb142, 1, none⟩ = some (.int .i64 a0_1) := (blk_cell BK142.out 1).trans rfl; have hcz4_2 : w3.cell? ⟨gb142, 2, none⟩ = some (.int .i64 a0_2) := (blk_cell BK142.out 2).trans rfl; have hfz4_0 := blk_frozen BK142.out 0; have hfz4_1 := blk_frozen BK142.out 1; have hfz4_2 := blk_frozen BK142.out 2))
    go_ret
    exact ⟨_, by first | rfl | (simp [errW_none, errW_some] <;> rfl) | (simp [*, errW_none, errW_some] <;> rfl), by first | exact Kd.R_nil _ _ _ _ _ | exact Kd.N_nil _ _ _ _ _ | exact Kd.V_nil _ _ _ _ _ | exact Kd.Q_nil _ _ _ _ _ | exact Kd.S_nil _ _ _ _ _, by repeat (first | (with_reducible first | exact HB.out | apply below_alloc | apply pw_below_drewN | apply below_drew1 | refine below_set ?_ GE142.out) | exact HB.out)⟩
  · rw [if_neg c2] at H
    have c2b0 : decide (a0_0 ≤ 0) = false := decide_eq_false c2
    clear c2
    obtain ⟨y143, hy143⟩ : ∃ y_ : List Int, y_ = (([65533] : List Int)) := ⟨_, rfl⟩
    replace H : (some y143) = some r := by first | (rw [hy143]; with_reducible exact H) | (have H2_ := (Option.bind_some _ _).symm.trans H; rw [hy143]; with_reducible exact H2_) | (have H2_ := (Option.bind_some _ _).symm.trans H; with_reducible exact H2_) | with_reducible exact H | (rw [hy143]; exact H) | exact H
    have Ny143 := Aside0.mk hy143
    clear hy143
    obtain rfl := Option.some.inj H
    go_enter Try.func8, Try.ntmps8
    go_wp2_with (first | ((with_reducible refine gate_dst (N := 1) rfl ?_); refine box_event ?hg (N := 1) ?hd (cs := #[.int .i64 a0_0, .int .i64 a0_1, .int .i64 a0_2]) (t := 25) ?hr ?_; (case hd => rfl); (case hg => rfl); (case hr => first | (go_simp; done) | (go_simp; rfl)); intro gb142 hg w5 hbox hb; have n0_ := Aside0.mk (below_step (by repeat (first | (with_reducible first | exact HB.out | apply below_alloc | apply pw_below_drewN | apply below_drew1) | exact HB.out)) hb); have n1_ := Aside0.mk (hbox); have n2_ := Aside0.mk ((by rw [hg]; exact (below_size (by repeat (first | (with_reducible first | exact HB.out | apply below_alloc | apply pw_below_drewN | apply below_drew1) | exact HB.out))) : w.heap.size ≤ gb142)); have n3_ := Aside0.mk ((by rw [hg]; exact (below_size (by repeat (first | (with_reducible first | exact HB.out | apply below_alloc | apply pw_below_drewN | apply below_drew1) | exact HB.out))) : w.heap.size ≤ gb142)); clear HB; have HB := n0_; have BK142 := n1_; have GW142 := n2_; have GE142 := n3_; clear n0_ n1_ n2_ n3_; clear hb hbox hg; have hcz6_0 : w5.cell? ⟨gb142, 0, none⟩ = some (.int .i64 a0_0) := (blk_cell BK142.out 0).trans rfl; have hcz6_1 : w5.cell? ⟨gb142, 1, none⟩ = some (.int .i64 a0_1) := (blk_cell BK142.out 1).trans rfl; have hcz6_2 : w5.cell? ⟨gb142, 2, none⟩ = some (.int .i64 a0_2) := (blk_cell BK142.out 2).trans rfl; have hfz6_0 := blk_frozen BK142.out 0; have hfz6_1 := blk_frozen BK142.out 1; have hfz6_2 := blk_frozen BK142.out 2) | ((with_reducible refine gate_dst (N := 6) rfl ?_); refine Kd.R_lit (Kd.int .i32) _ 21 ?hg (N := 6) ?hd (xs := ([65533] : List Int)) (inner := [.int .i32 65533]) (ok := fun _ => True) (okp := fun _ => True) ?hr ?hp (fun _ hk => hk) trivial (Below.refl _ _) (Nat.le_refl _) (by simp) ?_; (case hd => rfl); (case hg => rfl); (case hr => first | (go_simp; done) | (go_simp; rfl)); (case hp => exact (Reps.one (show Kd.M (Kd.int .i32) _ _ _ 65533 [.int .i32 65533] from rfl) (Reps.none _ _))); intro v144 w7 ho8 hb hg_ hnew_; clear hg_ hnew_; (first | rw [← Ny143.out] at ho8 | (simp only [Int.reduceToNat] at ho8; rw [← Ny143.out] at ho8)); have n0_ := Aside0.mk (Kd.R_lower ho8 (below_size (by repeat (first | (with_reducible first | exact HB.out | apply below_alloc | apply pw_below_drewN | apply below_drew1 | refine below_set ?_ GE142.out) | exact HB.out)))); have n1_ := Aside0.mk (blk_below (g := gb142) (o := .cells #[.int .i64 a0_0, .int .i64 a0_1, .int .i64 a0_2] 25 (0, 0)) (by (with_reducible repeat (first | refine blk_drewN ?_ _ | refine blk_drew ?_ | refine blk_alloc ?_ _)); exact BK142.out) hb); have n2_ := Aside0.mk (below_step (by repeat (first | (with_reducible first | exact HB.out | apply below_alloc | apply pw_below_drewN | apply below_drew1 | refine below_set ?_ GE142.out) | exact HB.out)) hb); clear BK142; clear HB; have HO145 := n0_; have BK142 := n1_; have HB := n2_; clear n0_ n1_ n2_; clear hb ho8))
    go_ret
    exact ⟨_, by first | rfl | (simp [errW_none, errW_some] <;> rfl) | (simp [*, errW_none, errW_some] <;> rfl), by (with_reducible repeat (first | apply Kd.R_alloc | apply Kd.R_drewN | apply Kd.R_drew)); exact HO145.out, by repeat (first | (with_reducible first | exact HB.out | apply below_alloc | apply pw_below_drewN | apply below_drew1 | refine below_set ?_ GE142.out) | exact HB.out)⟩

/-! ### polyptychref1_SameRunes: function 10 (FOREIGN) -/
/-- Two rows that are one are the same. -/
def polyptychref1_SameRunes.f (a b : List Int) : Option Bool := if a = b then some true else none
section
set_option maxHeartbeats 8000000 in
theorem polyptychref1_SameRunes.calls (A0 : Option Addr) (c0 : Nat) (l0 : List Int) (A1 : Option Addr) (c1 : Nat) (l1 : List Int) (r : Bool) (w : World) (hr0 : Kd.C (Kd.int .i32) w A0 l0.length l0) (hc0 : l0.length ≤ c0) (hr1 : Kd.C (Kd.int .i32) w A1 l1.length l1) (hc1 : l1.length ≤ c1) (h : polyptychref1_SameRunes.f l0 l1 = some r) :
    Calls Try.prog 10 #[.slice A0 l0.length c0, .slice A1 l1.length c1] w fun e w' => e = .returned (.bool r) ∧ ∃ n, w' = w.drewN n := by
  unfold polyptychref1_SameRunes.f at h
  split at h
  · rename_i hl
    obtain rfl := Option.some.inj h
    subst hl
    have e0 : (convert 26 9 (.slice A0 l0.length c0)).run Try.prog w = .ok (.string (runesBytes l0)) w := Kd.C_runes (e := 21) (by kernel_rfl) (by kernel_rfl) (by kernel_rfl) hr0
    have e1 : (convert 26 9 (.slice A1 l0.length c1)).run Try.prog w = .ok (.string (runesBytes l0)) w := Kd.C_runes (e := 21) (by kernel_rfl) (by kernel_rfl) (by kernel_rfl) hr1
    generalize runesBytes l0 = s at e0 e1
    generalize l0.length = m at *
    clear hr0 hr1 hc0 hc1 h
    go_enter Try.func10, Try.ntmps10
    go_wp2
    go_ret
    exact ⟨rfl, 0, rfl⟩
  · cases h
end


/-! ### utfd_Put: function 13 -/
def utfd_Put.j0 : Nat → Int → Option (List Int)
  | 0, _ => none
  | k + 1, x3 => if x3 < 128 then (some (([(x3) % 256] : List Int))) else (if x3 < 2048 then (some (([(Go.bits .or .i64 192 (x3 / 64)) % 256, (Go.bits .or .i64 128 (Go.bits .and .i64 x3 63)) % 256] : List Int))) else (if x3 < 65536 then (some (([(Go.bits .or .i64 224 (x3 / 4096)) % 256, (Go.bits .or .i64 128 (Go.bits .and .i64 (x3 / 64) 63)) % 256, (Go.bits .or .i64 128 (Go.bits .and .i64 x3 63)) % 256] : List Int))) else (some (([(Go.bits .or .i64 240 (x3 / 262144)) % 256, (Go.bits .or .i64 128 (Go.bits .and .i64 (x3 / 4096) 63)) % 256, (Go.bits .or .i64 128 (Go.bits .and .i64 (x3 / 64) 63)) % 256, (Go.bits .or .i64 128 (Go.bits .and .i64 x3 63)) % 256] : List Int)))))
def utfd_Put.f (k : Nat) (a0 : Int) : Option (List Int) := (utfd_no.f (wrap64 (a0))).bind fun t146 => (if t146 = true then (utfd_Put.j0 k 65533) else (utfd_Put.j0 k (wrap64 (a0))))
theorem utfd_Put.mono_l : ∀ k, (∀ y0, LeO (utfd_Put.j0 k y0) (utfd_Put.j0 (k + 1) y0))
  | 0 => fun _ r h => by simp [utfd_Put.j0] at h
  | k + 1 => by
    have ih0 := utfd_Put.mono_l k
    · intro y0
      unfold utfd_Put.j0
      repeat' first
      | (with_reducible exact ih0 _)
      | (with_reducible exact LeO.refl _)
      | (with_reducible exact LeO.none _)
      | (with_reducible refine LeO.ite ?_ ?_)
      | (with_reducible refine LeO.bind ?_ (fun _ => ?_))
      | exact ih0 _
      | exact LeO.none _
      | refine LeO.ite ?_ ?_
      | refine LeO.bind ?_ (fun _ => ?_)
theorem utfd_Put.mono : ∀ a0 k, LeO (utfd_Put.f k a0) (utfd_Put.f (k + 1) a0) := by
  intro a0 k
  have ih0 := utfd_Put.mono_l k
  unfold utfd_Put.f
  repeat' first
      | (with_reducible exact ih0 _)
      | (with_reducible exact LeO.refl _)
      | (with_reducible exact LeO.none _)
      | (with_reducible refine LeO.ite ?_ ?_)
      | (with_reducible refine LeO.bind ?_ (fun _ => ?_))
      | exact ih0 _
      | exact LeO.none _
      | refine LeO.ite ?_ ?_
      | refine LeO.bind ?_ (fun _ => ?_)
set_option maxHeartbeats 8000000 in
set_option maxRecDepth 100000 in
theorem utfd_Put.calls (k : Nat) (a0 : Int) (r : List Int) (w : World) (h : utfd_Put.f k a0 = some r) :
    Calls Try.prog 13 #[.int .i32 a0] w fun e w' => ∃ v0_ : Value, e = .returned (v0_) ∧ Kd.R (Kd.int .u8) 5 w' w.heap.size (fun _ => True) v0_ r ∧ Below w.heap.size w w' := by
  have HB := Aside0.mk (Below.refl w.heap.size w)
  have H : ((utfd_no.f (wrap64 (a0))).bind fun t146 => (if t146 = true then (utfd_Put.j0 k 65533) else (utfd_Put.j0 k (wrap64 (a0))))) = some r := h
  clear h
  replace H := Option.bind_eq_some_iff.mp H
  obtain ⟨t146, A20, H⟩ := H
  replace H : (if t146 = true then (utfd_Put.j0 k 65533) else (utfd_Put.j0 k (wrap64 (a0)))) = some r := H
  have A2 := Aside0.mk A20
  clear A20
  have HC3 := Aside0.mk H
  clear H
  go_enter Try.func13, Try.ntmps13
  go_upto_if 7 with (first | ((with_reducible refine gate_callee (f := 16) rfl ?_); refine goesL_ (some 7) rfl rfl Try.func16 (by kernel_rfl) rfl #[.int .i64 (wrap64 (a0))] rfl (by (try simp only [List.map_toArray, List.map_cons, List.map_nil]); first | done | rfl | (simp only [List.length_drop, List.length_take]; rfl)) ?_; (with_reducible refine (utfd_no.calls (wrap64 (a0)) t146 _ A2.out).mono ?_); rintro e w' ⟨rfl, ⟨nd, rfl⟩⟩; refine ⟨_, rfl, ?_⟩))
  (try simp only [Act.put, List.setIfInBounds_toArray, List.set_cons_zero, List.set_cons_succ])
  go_cut [3] (fun v3 wc => ∃ (kq : Nat) (x3_2 : Int), v3 = .int .i64 x3_2 ∧ Aside0 (utfd_Put.j0 kq x3_2 = some r) ∧ Aside0 (kq ≤ k) ∧ Aside0 (Below w.heap.size w wc))
  case first =>
    have H := HC3.out
    clear HC3
    by_cases c4 : t146 = true
    · subst c4
      have H1 : (utfd_Put.j0 k 65533) = some r := by rw [if_pos rfl] at H; exact H
      clear H
      have H := H1
      clear H1
      have H' := Aside0.mk H
      clear H
      go_wp2
      go_meet
      case rel => exact ⟨_, (65533), (by first | rfl | (simp; done) | (simp [*]; done)), H', ⟨by first | omega | exact Nat.le_refl _⟩, ⟨by repeat (first | (with_reducible first | exact HB.out | apply below_alloc | apply pw_below_drewN | apply below_drew1) | exact HB.out)⟩⟩
    · replace c4 := Bool.eq_false_iff.mpr c4
      subst c4
      have H1 : (utfd_Put.j0 k (wrap64 (a0))) = some r := by rw [if_neg (show ¬ (false = true) by decide)] at H; exact H
      clear H
      have H := H1
      clear H1
      have H' := Aside0.mk H
      clear H
      go_wp2
      go_meet
      case rel => exact ⟨_, (wrap64 (a0)), (by first | rfl | (simp; done) | (simp [*]; done)), H', ⟨by first | omega | exact Nat.le_refl _⟩, ⟨by repeat (first | (with_reducible first | exact HB.out | apply below_alloc | apply pw_below_drewN | apply below_drew1) | exact HB.out)⟩⟩
  case rest =>
    clear HC3
    try clear c1
    try clear p2
    try clear c4
    obtain ⟨kq, x3_2, rfl, HA, HJ2, HB⟩ := hcut
    cases kq with
    | zero => exact absurd HA.out (by simp [utfd_Put.j0])
    | succ kj2 =>
      have H := HA.out
      clear HA
      simp only [utfd_Put.j0] at H
      by_cases c5 : x3_2 < 128
      · rw [if_pos c5] at H
        have c5b0 : decide (x3_2 < 128) = true := decide_eq_true c5
        clear c5
        obtain ⟨y147, hy147⟩ : ∃ y_ : List Int, y_ = (([(x3_2) % 256] : List Int)) := ⟨_, rfl⟩
        replace H : (some y147) = some r := by first | (rw [hy147]; with_reducible exact H) | (have H2_ := (Option.bind_some _ _).symm.trans H; rw [hy147]; with_reducible exact H2_) | (have H2_ := (Option.bind_some _ _).symm.trans H; with_reducible exact H2_) | with_reducible exact H | (rw [hy147]; exact H) | exact H
        have Ny147 := Aside0.mk hy147
        clear hy147
        obtain rfl := Option.some.inj H
        go_wp2_with (first | ((with_reducible refine gate_dst (N := 13) rfl ?_); refine Kd.R_lit (Kd.int .u8) _ 5 ?hg (N := 13) ?hd (xs := ([(x3_2) % 256] : List Int)) (inner := [.int .u8 ((x3_2) % 256)]) (ok := fun _ => True) (okp := fun _ => True) ?hr ?hp (fun _ hk => hk) trivial (Below.refl _ _) (Nat.le_refl _) (by simp) ?_; (case hd => rfl); (case hg => rfl); (case hr => first | (go_simp; done) | (go_simp; rfl)); (case hp => exact (Reps.one (show Kd.M (Kd.int .u8) _ _ _ ((x3_2) % 256) [.int .u8 ((x3_2) % 256)] from rfl) (Reps.none _ _))); intro v148 w6 ho7 hb hg_ hnew_; clear hg_ hnew_; (first | rw [← Ny147.out] at ho7 | (simp only [Int.reduceToNat] at ho7; rw [← Ny147.out] at ho7)); have n0_ := Aside0.mk (Kd.R_lower ho7 (below_size (by repeat (first | (with_reducible first | exact HB.out | apply below_alloc | apply pw_below_drewN | apply below_drew1) | exact HB.out)))); have n1_ := Aside0.mk (below_step (by repeat (first | (with_reducible first | exact HB.out | apply below_alloc | apply pw_below_drewN | apply below_drew1) | exact HB.out)) hb); clear HB; have HO149 := n0_; have HB := n1_; clear n0_ n1_; clear hb ho7))
        go_ret
        exact ⟨_, by first | rfl | (simp [errW_none, errW_some] <;> rfl) | (simp [*, errW_none, errW_some] <;> rfl), by (with_reducible repeat (first | apply Kd.R_alloc | apply Kd.R_drewN | apply Kd.R_drew)); exact HO149.out, by repeat (first | (with_reducible first | exact HB.out | apply below_alloc | apply pw_below_drewN | apply below_drew1) | exact HB.out)⟩
      · rw [if_neg c5] at H
        have c5b0 : decide (x3_2 < 128) = false := decide_eq_false c5
        clear c5
        by_cases c8 : x3_2 < 2048
        · rw [if_pos c8] at H
          have c8b0 : decide (x3_2 < 2048) = true := decide_eq_true c8
          clear c8
          obtain ⟨y150, hy150⟩ : ∃ y_ : List Int, y_ = (([(Go.bits .or .i64 192 (x3_2 / 64)) % 256, (Go.bits .or .i64 128 (Go.bits .and .i64 x3_2 63)) % 256] : List Int)) := ⟨_, rfl⟩
          replace H : (some y150) = some r := by first | (rw [hy150]; with_reducible exact H) | (have H2_ := (Option.bind_some _ _).symm.trans H; rw [hy150]; with_reducible exact H2_) | (have H2_ := (Option.bind_some _ _).symm.trans H; with_reducible exact H2_) | with_reducible exact H | (rw [hy150]; exact H) | exact H
          have Ny150 := Aside0.mk hy150
          clear hy150
          obtain rfl := Option.some.inj H
          go_wp2_with (first | ((with_reducible refine gate_dst (N := 25) rfl ?_); refine Kd.R_lit (Kd.int .u8) _ 5 ?hg (N := 25) ?hd (xs := ([(Go.bits .or .i64 192 (x3_2 / 64)) % 256, (Go.bits .or .i64 128 (Go.bits .and .i64 x3_2 63)) % 256] : List Int)) (inner := [.int .u8 ((Go.bits .or .i64 192 (x3_2 / 64)) % 256), .int .u8 ((Go.bits .or .i64 128 (Go.bits .and .i64 x3_2 63)) % 256)]) (ok := fun _ => True) (okp := fun _ => True) ?hr ?hp (fun _ hk => hk) trivial (Below.refl _ _) (Nat.le_refl _) (by simp) ?_; (case hd => rfl); (case hg => rfl); (case hr => first | (go_simp; done) | (go_simp; rfl)); (case hp => exact (Reps.one (show Kd.M (Kd.int .u8) _ _ _ ((Go.bits .or .i64 192 (x3_2 / 64)) % 256) [.int .u8 ((Go.bits .or .i64 192 (x3_2 / 64)) % 256)] from rfl) (Reps.one (show Kd.M (Kd.int .u8) _ _ _ ((Go.bits .or .i64 128 (Go.bits .and .i64 x3_2 63)) % 256) [.int .u8 ((Go.bits .or .i64 128 (Go.bits .and .i64 x3_2 63)) % 256)] from rfl) (Reps.none _ _)))); intro v151 w9 ho10 hb hg_ hnew_; clear hg_ hnew_; (first | rw [← Ny150.out] at ho10 | (simp only [Int.reduceToNat] at ho10; rw [← Ny150.out] at ho10)); have n0_ := Aside0.mk (Kd.R_lower ho10 (below_size (by repeat (first | (with_reducible first | exact HB.out | apply below_alloc | apply pw_below_drewN | apply below_drew1) | exact HB.out)))); have n1_ := Aside0.mk (below_step (by repeat (first | (with_reducible first | exact HB.out | apply below_alloc | apply pw_below_drewN | apply below_drew1) | exact HB.out)) hb); clear HB; have HO152 := n0_; have HB := n1_; clear n0_ n1_; clear hb ho10))
          go_ret
          exact ⟨_, by first | rfl | (simp [errW_none, errW_some] <;> rfl) | (simp [*, errW_none, errW_some] <;> rfl), by (with_reducible repeat (first | apply Kd.R_alloc | apply Kd.R_drewN | apply Kd.R_drew)); exact HO152.out, by repeat (first | (with_reducible first | exact HB.out | apply below_alloc | apply pw_below_drewN | apply below_drew1) | exact HB.out)⟩
        · rw [if_neg c8] at H
          have c8b0 : decide (x3_2 < 2048) = false := decide_eq_false c8
          clear c8
          by_cases c11 : x3_2 < 65536
          · rw [if_pos c11] at H
            have c11b0 : decide (x3_2 < 65536) = true := decide_eq_true c11
            clear c11
            obtain ⟨y153, hy153⟩ : ∃ y_ : List Int, y_ = (([(Go.bits .or .i64 224 (x3_2 / 4096)) % 256, (Go.bits .or .i64 128 (Go.bits .and .i64 (x3_2 / 64) 63)) % 256, (Go.bits .or .i64 128 (Go.bits .and .i64 x3_2 63)) % 256] : List Int)) := ⟨_, rfl⟩
            replace H : (some y153) = some r := by first | (rw [hy153]; with_reducible exact H) | (have H2_ := (Option.bind_some _ _).symm.trans H; rw [hy153]; with_reducible exact H2_) | (have H2_ := (Option.bind_some _ _).symm.trans H; with_reducible exact H2_) | with_reducible exact H | (rw [hy153]; exact H) | exact H
            have Ny153 := Aside0.mk hy153
            clear hy153
            obtain rfl := Option.some.inj H
            go_wp2_with (first | ((with_reducible refine gate_dst (N := 42) rfl ?_); refine Kd.R_lit (Kd.int .u8) _ 5 ?hg (N := 42) ?hd (xs := ([(Go.bits .or .i64 224 (x3_2 / 4096)) % 256, (Go.bits .or .i64 128 (Go.bits .and .i64 (x3_2 / 64) 63)) % 256, (Go.bits .or .i64 128 (Go.bits .and .i64 x3_2 63)) % 256] : List Int)) (inner := [.int .u8 ((Go.bits .or .i64 224 (x3_2 / 4096)) % 256), .int .u8 ((Go.bits .or .i64 128 (Go.bits .and .i64 (x3_2 / 64) 63)) % 256), .int .u8 ((Go.bits .or .i64 128 (Go.bits .and .i64 x3_2 63)) % 256)]) (ok := fun _ => True) (okp := fun _ => True) ?hr ?hp (fun _ hk => hk) trivial (Below.refl _ _) (Nat.le_refl _) (by simp) ?_; (case hd => rfl); (case hg => rfl); (case hr => first | (go_simp; done) | (go_simp; rfl)); (case hp => exact (Reps.one (show Kd.M (Kd.int .u8) _ _ _ ((Go.bits .or .i64 224 (x3_2 / 4096)) % 256) [.int .u8 ((Go.bits .or .i64 224 (x3_2 / 4096)) % 256)] from rfl) (Reps.one (show Kd.M (Kd.int .u8) _ _ _ ((Go.bits .or .i64 128 (Go.bits .and .i64 (x3_2 / 64) 63)) % 256) [.int .u8 ((Go.bits .or .i64 128 (Go.bits .and .i64 (x3_2 / 64) 63)) % 256)] from rfl) (Reps.one (show Kd.M (Kd.int .u8) _ _ _ ((Go.bits .or .i64 128 (Go.bits .and .i64 x3_2 63)) % 256) [.int .u8 ((Go.bits .or .i64 128 (Go.bits .and .i64 x3_2 63)) % 256)] from rfl) (Reps.none _ _))))); intro v154 w12 ho13 hb hg_ hnew_; clear hg_ hnew_; (first | rw [← Ny153.out] at ho13 | (simp only [Int.reduceToNat] at ho13; rw [← Ny153.out] at ho13)); have n0_ := Aside0.mk (Kd.R_lower ho13 (below_size (by repeat (first | (with_reducible first | exact HB.out | apply below_alloc | apply pw_below_drewN | apply below_drew1) | exact HB.out)))); have n1_ := Aside0.mk (below_step (by repeat (first | (with_reducible first | exact HB.out | apply below_alloc | apply pw_below_drewN | apply below_drew1) | exact HB.out)) hb); clear HB; have HO155 := n0_; have HB := n1_; clear n0_ n1_; clear hb ho13))
            go_ret
            exact ⟨_, by first | rfl | (simp [errW_none, errW_some] <;> rfl) | (simp [*, errW_none, errW_some] <;> rfl), by (with_reducible repeat (first | apply Kd.R_alloc | apply Kd.R_drewN | apply Kd.R_drew)); exact HO155.out, by repeat (first | (with_reducible first | exact HB.out | apply below_alloc | apply pw_below_drewN | apply below_drew1) | exact HB.out)⟩
          · rw [if_neg c11] at H
            have c11b0 : decide (x3_2 < 65536) = false := decide_eq_false c11
            clear c11
            obtain ⟨y156, hy156⟩ : ∃ y_ : List Int, y_ = (([(Go.bits .or .i64 240 (x3_2 / 262144)) % 256, (Go.bits .or .i64 128 (Go.bits .and .i64 (x3_2 / 4096) 63)) % 256, (Go.bits .or .i64 128 (Go.bits .and .i64 (x3_2 / 64) 63)) % 256, (Go.bits .or .i64 128 (Go.bits .and .i64 x3_2 63)) % 256] : List Int)) := ⟨_, rfl⟩
            replace H : (some y156) = some r := by first | (rw [hy156]; with_reducible exact H) | (have H2_ := (Option.bind_some _ _).symm.trans H; rw [hy156]; with_reducible exact H2_) | (have H2_ := (Option.bind_some _ _).symm.trans H; with_reducible exact H2_) | with_reducible exact H | (rw [hy156]; exact H) | exact H
            have Ny156 := Aside0.mk hy156
            clear hy156
            obtain rfl := Option.some.inj H
            go_wp2_with (first | ((with_reducible refine gate_dst (N := 61) rfl ?_); refine Kd.R_lit (Kd.int .u8) _ 5 ?hg (N := 61) ?hd (xs := ([(Go.bits .or .i64 240 (x3_2 / 262144)) % 256, (Go.bits .or .i64 128 (Go.bits .and .i64 (x3_2 / 4096) 63)) % 256, (Go.bits .or .i64 128 (Go.bits .and .i64 (x3_2 / 64) 63)) % 256, (Go.bits .or .i64 128 (Go.bits .and .i64 x3_2 63)) % 256] : List Int)) (inner := [.int .u8 ((Go.bits .or .i64 240 (x3_2 / 262144)) % 256), .int .u8 ((Go.bits .or .i64 128 (Go.bits .and .i64 (x3_2 / 4096) 63)) % 256), .int .u8 ((Go.bits .or .i64 128 (Go.bits .and .i64 (x3_2 / 64) 63)) % 256), .int .u8 ((Go.bits .or .i64 128 (Go.bits .and .i64 x3_2 63)) % 256)]) (ok := fun _ => True) (okp := fun _ => True) ?hr ?hp (fun _ hk => hk) trivial (Below.refl _ _) (Nat.le_refl _) (by simp) ?_; (case hd => rfl); (case hg => rfl); (case hr => first | (go_simp; done) | (go_simp; rfl)); (case hp => exact (Reps.one (show Kd.M (Kd.int .u8) _ _ _ ((Go.bits .or .i64 240 (x3_2 / 262144)) % 256) [.int .u8 ((Go.bits .or .i64 240 (x3_2 / 262144)) % 256)] from rfl) (Reps.one (show Kd.M (Kd.int .u8) _ _ _ ((Go.bits .or .i64 128 (Go.bits .and .i64 (x3_2 / 4096) 63)) % 256) [.int .u8 ((Go.bits .or .i64 128 (Go.bits .and .i64 (x3_2 / 4096) 63)) % 256)] from rfl) (Reps.one (show Kd.M (Kd.int .u8) _ _ _ ((Go.bits .or .i64 128 (Go.bits .and .i64 (x3_2 / 64) 63)) % 256) [.int .u8 ((Go.bits .or .i64 128 (Go.bits .and .i64 (x3_2 / 64) 63)) % 256)] from rfl) (Reps.one (show Kd.M (Kd.int .u8) _ _ _ ((Go.bits .or .i64 128 (Go.bits .and .i64 x3_2 63)) % 256) [.int .u8 ((Go.bits .or .i64 128 (Go.bits .and .i64 x3_2 63)) % 256)] from rfl) (Reps.none _ _)))))); intro v157 w14 ho15 hb hg_ hnew_; clear hg_ hnew_; (first | rw [← Ny156.out] at ho15 | (simp only [Int.reduceToNat] at ho15; rw [← Ny156.out] at ho15)); have n0_ := Aside0.mk (Kd.R_lower ho15 (below_size (by repeat (first | (with_reducible first | exact HB.out | apply below_alloc | apply pw_below_drewN | apply below_drew1) | exact HB.out)))); have n1_ := Aside0.mk (below_step (by repeat (first | (with_reducible first | exact HB.out | apply below_alloc | apply pw_below_drewN | apply below_drew1) | exact HB.out)) hb); clear HB; have HO158 := n0_; have HB := n1_; clear n0_ n1_; clear hb ho15))
            go_ret
            exact ⟨_, by first | rfl | (simp [errW_none, errW_some] <;> rfl) | (simp [*, errW_none, errW_some] <;> rfl), by (with_reducible repeat (first | apply Kd.R_alloc | apply Kd.R_drewN | apply Kd.R_drew)); exact HO158.out, by repeat (first | (with_reducible first | exact HB.out | apply below_alloc | apply pw_below_drewN | apply below_drew1) | exact HB.out)⟩

end Go.Proofs.Ytdfklcbcidopfaa.PUtfdBack
